/- Parts: Contract of klass.Of: what is thrown is caught. klass's maker of images: its block, its pool that grows, its map of places; what turned. Contracts: klass's maker: put, text, class. Contract: klass's bytes.put. Contracts: klass's maker: text, class; the maker beside a row of bytes. Contract: klass's maker: types. klass's maker with its rows: the interfaces, the fields, the methods. KlassMore's memory: an image of the call's own whose members' attributes are laid anew. -/
import Derived.Test.YtpmfiegfbmamiaaDoorPm13
import Derived.Test.YtpmfiegfbmamiaaDoorPm6
import Derived.Defers
import Derived.Recover
import Derived.Test.YtpmfiegfbmamiaaDoorPm12
import Derived.Test.YtpmfiegfbmamiaaDoorPm3
import Derived.Test.YtpmfiegfbmamiaaDoorPm5
import Derived.Test.YtpmfiegfbmamiaaDoorPm7
import Derived.Test.YtpmfiegfbmamiaaDoorPm2
namespace Go.Proofs.YtpmfiegfbmamiaaDoor
set_option maxRecDepth 100000
set_option maxHeartbeats 8000000
open Go.RowKit
set_option linter.unusedSimpArgs false
def OfQ (w:World) (pool:List Cst) (W:Option Cls) (e:Ending) (w':World):Prop:=(match W with
 | some c=>∃y:ClE,y.p=c∧y.pool.l=pool∧ClX w' (Nw w w') y∧e = .returned (.tuple #[.agg (clA y),.int .i64 0])
 | none=>e = .returned (.tuple #[.agg z7,.int .i64 24]))∧Below w.heap.size w w'
def OfPost (w:World) (m:Img) (e:Ending) (w':World):Prop:=OfQ w m.pool (ofP m) e w'
theorem X9s:z7.all (·.oneCell')=true:=by simp [z7,Value.oneCell']
theorem W8u (y:ClE):(clA y).all (·.oneCell')=true:=by simp [clA,strQ,Sq.v,Value.oneCell']
theorem X2a {pool:List Cst} {i k:Int} (h:tagP pool i=k) (hk:k≠0):1≤i∧i<pool.length:=by
 unfold tagP at h
 split at h
 ·exact absurd h.symm hk
 ·rename_i h1
  cases e:pool[i.toNat]? with
  | none=>rw[e]at h;exact absurd h.symm hk
  | some c=>
   have:=(Z24.1 e).1
   omega
theorem W8a {k:Int} (h:u2P k=true):0≤k∧k<65536:=by
 have:=Z49 h
 omega
theorem X9d {pool:List Cst} {w:World} {B:Nat} {L:List MmE} (hL:∀m∈L,MmB w B m) (h:memsOk pool (L.map MmE.p)=true):L.length≤64∧∀m∈L,0≤m.access∧m.access<65536∧m.n≤100000000∧∀a∈m.L,(a.s.n:Int)≤140737488355328:=by
 unfold memsOk at h;rw[Z20,Z31]at h;refine⟨by have:=Z49 h.2;rwa [Z17]at this,fun m hm=>?_⟩;have h1:=h.1 m.p (List.mem_map_of_mem hm);unfold memOk attsOk at h1;simp only[Z20,Z31]at h1;obtain⟨⟨⟨h2,_⟩,_⟩,h3,h4⟩:=h1;have hb:=hL m hm;have h5:m.L.length≤64:=by have:=Z49 h4;rwa [show m.p.attrs=m.L.map AtE.p from rfl,Z17]at this
 refine⟨(W8a h2).1,(W8a h2).2,by have:=hb.1;omega,fun a ha=>?_⟩;have h6:=h3 a.p (List.mem_map_of_mem ha);unfold attOk at h6;rw[Z20]at h6;have h7:=Z49 h6.2;have h8:=(hb.2.2.2.2 a ha).1;have h9:a.p.data=a.s.l:=rfl;rw[h9,h8]at h7;omega
theorem W4t {x:ImE} {w:World} {B:Nat} (hx:RIm w B x) (h:holdsP x.p=true):ImR x:=by
 unfold holdsP headOk at h;simp only[Z20]at h;obtain⟨⟨⟨⟨⟨⟨⟨h0,hr⟩,_⟩,_⟩,_⟩,hf⟩,hm⟩,_⟩:=h;obtain⟨⟨⟨⟨_,_⟩,hp⟩,ha⟩,hi⟩:=h0;have hp:=Z49 hp;have hi:=Z49 hi;have e1:x.p.pool=x.pool:=rfl;have e2:x.p.ifaces=x.ifs:=rfl;have e3:x.p.access=x.access:=rfl;rw[e1]at hp;rw[e2]at hi;rw[e3]at ha;have hf:=X9d hx.fs.2 hf;have hm:=X9d hx.ms.2 hm;refine⟨by have:=hx.pl.1;omega,fun c hc ht=>?_,W8a ha,by have:=hx.il.1;omega,⟨by have:=hx.fl.1;omega,hf.2⟩,⟨by have:=hx.ml.1;omega,hm.2⟩⟩;obtain⟨i,hi1,hi2⟩:=List.getElem_of_mem hc;unfold rightsP at hr;rw[Z31]at hr;have h1:=hr i (Z39.2 hi1);rw[e1,Z33 hi1,hi2]at h1;have h2:rightP x.pool i c=true:=h1;unfold rightP at h2;rw[if_neg (by omega),if_neg (by omega),if_neg (by omega),if_neg (by omega),if_neg (by omega),if_pos ht,Z20]at h2;have h3:=Z49 h2.2
 have:=X2a h3.2.1 (by decide)
 omega
theorem Y0o (g2 g3:Nat) (w:World) (old:Array Value) (u:Value) (h2:Bk w g2 27 old) (hs:old.size=7) (h3:Bk w g3 35 #[u]) (hne:g2≠g3) :
  CallsD Tryd.prog 16 #[.pointer (some ⟨g2,0,none⟩),.pointer (some ⟨g3,0,none⟩)] (.panicking brkC) w fun e u' w'=>e = .returned (.tuple #[])∧u' = .panicking [{ v := .iface 67 (.agg #[]),recovered:=true }]∧Ch w w' (fun k=>k=g2∨k=g3)∧Bk w' g2 27 z7∧Bk w' g3 35 #[.int .i64 24]:=by
 have Zj:=bx h2;have Zo:=bx h3;have HS:=bx hs;have Wy:=bx hne;clear h2 h3 hs hne;have hTA:∀wq:World,(Instr.typeAssert (.iface 67 (.agg #[])) 20 67 true).run Tryd.prog wq = .ok (.tuple #[.agg #[],.bool true]) wq:=fun wq=>by kernel_rfl
 have hZB:∀wq:World,(zeroValue 67).run Tryd.prog wq = .ok (.agg #[]) wq:=fun wq=>by kernel_rfl
 refine callsD_of_wpS Tryd.func16 rfl fun c₀ cs hu=>?_
 apply wpS_seq
 apply wpS_region
 simp [wpOpsS,go_sem,recoverD,hu,Tryd.ntmps16,Exit.thenS,brkC,Array.replicate_succ,Array.replicate_zero,List.push_toArray,List.append_toArray];refine wpS_of_wp ?_;obtain⟨wa,hwa⟩:∃wa,w.alloc (.cells #[] 67)=wa:=⟨_,rfl⟩;have Fg:=bx (Zj.out.alloc (.cells #[] 67));have Y9:=bx (Zo.out.alloc (.cells #[] 67));have E4:Bx (Ch w (w.alloc (.cells #[] 67)) (fun k=>k=g2∨k=g3)):=bx ((Ch.refl w).alloc _);rw[hwa]at Fg Y9 E4;have Ma:=bx (Fg.out.setRow z7);have Kc:=bx (Y9.out.ch (Y9t wa g2 z7) (fun e=>by have e:g3=g2:=e;exact Wy.out e.symm));have Jc:Bx (Ch w (wa.setRow g2 z7) (fun k=>k=g2∨k=g3)):=bx (E4.out.trans (Y9t wa g2 z7) (fun k _ e => .inl e));have f3:(wa.setRow g2 z7).cell? ⟨g3,0,none⟩=some u:=Kc.out.cell 0;have z3:=Kc.out.frz 0;have hg3:=Kc.out.lt;go_upto_region 5 with(fail)
 go_wp2_with (first | (refine wpList_store_row rfl 27 (.tmp 0) (.tmp 16) rfl g2 z7 rfl rfl 27 old Fg.out Y9h HS.out X9s ?_))
 refine⟨rfl,_,rfl,.tuple #[],by simp [results,Tryd.results16,go_sem],rfl,rfl,?_,?_,?_⟩
 ·exact Jc.out.setCell (fun _ => .inr rfl) _
 ·exact Ma.out.far Wy.out _
 ·exact(Kc.out.set 0 _).trans rfl
theorem X7p (g2 g3:Nat) (w:World) :
  CallsD Tryd.prog 16 #[.pointer (some ⟨g2,0,none⟩),.pointer (some ⟨g3,0,none⟩)] .returning w fun e u' w'=>e = .returned (.tuple #[])∧u' = .returning∧w'=w:=by
 refine callsD_of_wpS Tryd.func16 rfl fun c₀ cs hu=>?_
 apply wpS_seq
 apply wpS_region
 simp [wpOpsS,go_sem,recoverD,hu,Tryd.ntmps16,Exit.thenS,Array.replicate_succ,Array.replicate_zero,List.push_toArray,List.append_toArray];refine wpS_of_wp ?_;go_wp2;cases c₀
 simp_all [bodyPostS,results,Tryd.results16,go_sem]
theorem X9e (x:ImE) (w:World) (hx:RIm w w.heap.size x) (hT:∀c∈x.pool,(-9223372036854775808≤c.tag∧c.tag≤9223372036854775807)∧c.text.length≤2000000) (hm:0<w.heap.size∧∃m,w.cell? ⟨0,0,none⟩=some (.int .i64 m)) :
  Calls Tryd.prog 6 #[.agg (imC x)] w (OfPost w x.p):=by
 have HX:=bx hx;have HT:=bx hT;have HM:=bx hm;obtain⟨W,hW⟩:∃W,ofP x.p=W:=⟨_,rfl⟩;obtain⟨cs,hcs⟩:∃cs,cs=imC x:=⟨_,rfl⟩;unfold OfPost;rw[hW,←hcs];have HW:=bx hW;have Yt:=bx hcs;obtain⟨B,hB⟩:∃B,w.heap.size=B:=⟨_,rfl⟩;obtain⟨w1,hw1⟩:∃w1,w.alloc (.cells cs 34)=w1:=⟨_,rfl⟩;obtain⟨w2,hw2⟩:∃w2,w1.alloc (.cells z7 27)=w2:=⟨_,rfl⟩;obtain⟨w3,hw3⟩:∃w3,w2.alloc (.cells #[.int .i64 0] 35)=w3:=⟨_,rfl⟩;obtain⟨g2,hg2⟩:∃g2,w1.heap.size=g2:=⟨_,rfl⟩;have hb1:Below w.heap.size w w1:=by rw[←hw1];exact Y9z (Below.refl _ w) (Z00 _) _
 have hb2:Below w.heap.size w w2:=by rw[←hw2];exact Y9z hb1 (Z00 _) _
 have hb3:Below w.heap.size w w3:=by rw[←hw3];exact Y9z hb2 (Z00 _) _
 have hk1:Bk w1 B 34 cs:=by rw[←hw1];exact Bk.newAt w _ cs hB
 have hk1b:Bk w2 B 34 cs:=by rw[←hw2];exact hk1.alloc _
 have hk1c:Bk w3 B 34 cs:=by rw[←hw3];exact hk1b.alloc _
 have hk2:Bk w2 g2 27 z7:=by rw[←hw2];exact Bk.newAt w1 _ z7 hg2
 have hk2c:Bk w3 g2 27 z7:=by rw[←hw3];exact hk2.alloc _
 have hg3:w2.heap.size=g2+1:=by rw[←hw2];simp [hg2]
 have hk3:Bk w3 (g2+1) 35 #[.int .i64 0]:=by rw[←hw3];exact Bk.newAt w2 _ _ hg3
 have ho:B<g2:=by have:=hk1.lt;omega
 have Qm:=bx hk1c;have Zj:=bx hk2c;have Zo:=bx hk3;have Xv:=bx hb3;have HO:=bx ho;have Jn:=bx hB;clear hx hT hm hW hcs hb1 hb2 hb3 hk1 hk1b hk1c hk2 hk2c hk3 ho;have hmf:∀(fn:Fn) (first cap:Array Value) (w:World),(Instr.makeFunc fn first cap).run Tryd.prog w = .ok (.func fn first cap) w:=fun _ _ _ _=>rfl
 go_enter_defers Tryd.func6,Tryd.ntmps6
 go_upto_region 1 with(fail)
 have hw2':w1.alloc (.cells #[.int .i64 0,.string ⟨#[]⟩,.string ⟨#[]⟩,.slice none 0 0,.slice none 0 0,.slice none 0 0,.slice none 0 0] 27)=w2:=hw2;rw[hw2',hw3];clear hw1 hw2 hw2' hw3 hg2 hg3;obtain⟨q,hq⟩:∃q,holdsP x.p=q:=⟨_,rfl⟩;have Pe:=bx (Y1t x w3 (HX.out.up Xv.out) HT.out);rw[←Yt.out,hq]at Pe;have HQ:=bx hq;clear hq;cases q with
 | false=>
  have HN:Bx (W=none):=bx (by rw[←HW.out];unfold ofP;rw[if_neg (by rw[HQ.out];decide)]);go_upto_region 2 with(first | (refine wpList_load_row rfl 34 (.tmp 1) rfl B rfl _ cs _ _ Qm.out Tryd.underlying34 rfl (by rw[Yt.out,Y6m];exact Y9p) ?_) | (go_at_call 15;refine Pe.out.mono ?_;rintro e w4 ⟨rfl,hb4⟩;have Yj:=bx hb4;clear hb4))
  have Lz:=bx (Zj.out.below Yj.out Zj.out.lt);have Ly:=bx (Zo.out.below Yj.out Zo.out.lt);have Yu:=bx (Xv.out.trans (Yj.out.mono Xv.out.size));have Xi:Bx (Ch w4 (w4.setRow g2 z7) (OneR g2)):=bx (Y9t w4 g2 z7);have Kb:=bx (Lz.out.setRow z7);have Qc:=bx (Ly.out.ch Xi.out (fun e=>by have e:g2+1=g2:=e;omega));have f3:(w4.setRow g2 z7).cell? ⟨g2+1,0,none⟩=some (.int .i64 0):=Qc.out.cell 0;have z3:=Qc.out.frz 0;have hl3:=Qc.out.lt;go_wp2_with (first | (refine wpList_store_row rfl 27 (.tmp 2) (.tmp 7) rfl g2 z7 rfl rfl 27 z7 Lz.out Y9h rfl X9s ?_))
  have d:=Kb.out.far (p:=⟨g2+1,0,none⟩) (by show g2≠g2+1;omega) (.int .i64 24);have d0:=d.cell 0;have d1:=d.cell 1;have d2:=d.cell 2;have d3:=d.cell 3;have d4:=d.cell 4;have d5:=d.cell 5;have d6:=d.cell 6;have e0:=(Qc.out.set 0 (.int .i64 24)).cell 0;simp only[z7,Z19,List.getElem?_cons_zero,Z21]at d0 d1 d2 d3 d4 d5 d6;have e0:((w4.setRow g2 z7).setCell ⟨g2+1,0,none⟩ (.int .i64 24)).cell? ⟨g2+1,0,none⟩=some (.int .i64 24):=e0;unfold z7 at e0;rw[HN.out];refine⟨.tuple #[.agg z7,.int .i64 24],by simp [z7,results,Tryd.results6,go_sem,d0,d1,d2,d3,d4,d5,d6,e0],rfl,?_⟩
  exact(bl_setRow Yu.out (by have:=HO.out;omega) _).setCell (p:=⟨g2+1,0,none⟩) (by show w.heap.size≤g2+1;have:=HO.out;omega) _
 | true=>
  have HN:Bx (W=readK x.p):=bx (by rw[←HW.out];unfold ofP;rw[if_pos HQ.out]);go_upto_region 4 with(first | (refine wpList_load_row rfl 34 (.tmp 1) rfl B rfl _ cs _ _ Qm.out Tryd.underlying34 rfl (by rw[Yt.out,Y6m];exact Y9p) ?_) | (go_at_call 15;refine Pe.out.mono ?_;rintro e w4 ⟨rfl,hb4⟩;have Yj:=bx hb4;clear hb4))
  have E3:=bx (W4t HX.out HQ.out);have Lz:=bx (Zj.out.below Yj.out Zj.out.lt);have Ly:=bx (Zo.out.below Yj.out Zo.out.lt);have Y8:Bx (Bk w4 B 34 (imC x)):=bx (by rw[←Yt.out];exact Qm.out.below Yj.out Qm.out.lt);have Yu:=bx (Xv.out.trans (Yj.out.mono Xv.out.size));obtain⟨gv,hgv⟩:∃gv,w4.heap.size=gv:=⟨_,rfl⟩;obtain⟨w5,hw5⟩:∃w5,w4.alloc (.cells (vwA x false) 71)=w5:=⟨_,rfl⟩;have hbv:Below w4.heap.size w4 w5:=by rw[←hw5];exact Y9z (Below.refl _ w4) (Z00 _) _
  have Kb:=bx (Lz.out.below hbv Lz.out.lt);have Qc:=bx (Ly.out.below hbv Ly.out.lt);have Y7:=bx (Yu.out.trans (hbv.mono Yu.out.size));have hlt:gv<w5.heap.size:=by rw[←hw5,←hgv];simp
  have hgw:w.heap.size≤gv:=by rw[←hgv];exact Yu.out.size
  have Kj:Bx (Vw w5 gv x false):=bx ⟨by rw[←hw5];exact Bk.newAt w4 _ _ hgv,(HX.out.below Y7.out (Z00 _)).more hgw,hlt,fun c hc=>(HT.out c hc).2,Z07 HM.out.1 hgw,by obtain⟨m,hm⟩:=HM.out.2;exact⟨m,(Y7.out.cell (p:=⟨0,0,none⟩) HM.out.1).trans hm⟩⟩;have HG:Bx (g2+1<gv∧w.heap.size≤g2):=bx ⟨by have:=Ly.out.lt;omega,by have:=HO.out;omega⟩;have HVL:Bx (gv<w5.heap.size):=bx hlt;have hw5':w4.alloc (.cells #[.int .i64 x.minor,.int .i64 x.major,.slice x.pA x.pn x.pc,.int .i64 x.access,.int .i64 x.this,.int .i64 x.super,.slice x.iA x.i_n x.ic,.slice x.fA x.fn x.fc,.slice x.mA x.mn x.mc,.slice x.aA x.an x.ac,.bool false] 71)=w5:=hw5;have hrd:=X5r x gv w5 Kj.out E3.out;rw[←HN.out]at hrd;have Jh:=bx hrd;clear hrd HN HW HX HT HM hbv hlt hgw E3 Kj Zj Zo Qm Pe hw5;cases W with
  | none=>
   go_wp2_with (first | (refine wpList_load_row rfl 34 (.tmp 1) rfl B rfl _ #[.int .i64 x.minor,.int .i64 x.major,.slice x.pA x.pn x.pc,.int .i64 x.access,.int .i64 x.this,.int .i64 x.super,.slice x.iA x.i_n x.ic,.slice x.fA x.fn x.fc,.slice x.mA x.mn x.mc,.slice x.aA x.an x.ac] _ _ Y8.out Tryd.underlying34 rfl Y9p ?_) | ((try rw[hw5',hgv]);go_at_call 17;refine Jh.out.mono ?_;intro e w6 h6;obtain⟨h6,hc⟩:=h6;have h7:e = .panicked brkC:=h6;subst h7;clear h6;have Wk:=bx hc;clear hc))
   have Qz:=bx (Kb.out.ch Wk.out (fun e=>by have e:g2=gv:=e;have:=HG.out;omega));have Ff:=bx (Qc.out.ch Wk.out (fun e=>by have e:g2+1=gv:=e;have:=HG.out;omega));refine leaves_cons (f:=16) (args:=#[.pointer (some ⟨g2,0,none⟩),.pointer (some ⟨g2+1,0,none⟩)]) (by simp) (by simp [go_sem]) ?_
   refine(Y0o g2 (g2+1) w6 z7 (.int .i64 0) Qz.out rfl Ff.out (by omega)).mono ?_
   rintro e u w7 ⟨rfl,rfl,hc,d,d'⟩;have d0:=d.cell 0;have d1:=d.cell 1;have d2:=d.cell 2;have d3:=d.cell 3;have d4:=d.cell 4;have d5:=d.cell 5;have d6:=d.cell 6;have e0:w7.cell? ⟨g2+1,0,none⟩=some (.int .i64 24):=d'.cell 0;simp only[z7,Z19,List.getElem?_cons_zero,Z21]at d0 d1 d2 d3 d4 d5 d6;refine⟨.tuple #[.agg z7,.int .i64 24],by simp [z7,results,Tryd.results6,go_sem,d0,d1,d2,d3,d4,d5,d6,e0],rfl,?_⟩;have hg:=HG.out
   exact((Ch.of_below (S:=fun k=>w.heap.size≤k) (Y7.out.mono (Z00 _))).trans Wk.out (fun k hk e=>by have e:k=gv:=e;omega)).trans hc (fun k hk e=>by rcases e with e | e <;> omega) |>.below (Z00 _) (fun k hk h=>by omega)
  | some c=>
   go_wp2_with (first | (refine wpList_load_row rfl 34 (.tmp 1) rfl B rfl _ #[.int .i64 x.minor,.int .i64 x.major,.slice x.pA x.pn x.pc,.int .i64 x.access,.int .i64 x.this,.int .i64 x.super,.slice x.iA x.i_n x.ic,.slice x.fA x.fn x.fc,.slice x.mA x.mn x.mc,.slice x.aA x.an x.ac] _ _ Y8.out Tryd.underlying34 rfl Y9p ?_) | ((try rw[hw5',hgv]);go_at_call 17;refine Jh.out.mono ?_;intro e w6 h6;obtain⟨⟨y,hy1,hy2,hy3,h7⟩,hc⟩:=h6;subst h7;have Wk:=bx hc;have HY:=bx (And.intro hy1 (And.intro hy2 hy3));clear hc hy1 hy2 hy3;have Qz:=bx (Kb.out.ch Wk.out (fun e=>by have e:g2=gv:=e;have:=HG.out;omega));have Ff:=bx (Qc.out.ch Wk.out (fun e=>by have e:g2+1=gv:=e;have:=HG.out;omega));have Kz:Bx (Ch w6 (w6.setRow g2 (clA y)) (OneR g2)):=bx (Y9t w6 g2 (clA y));have O7:=bx (Qz.out.setRow (clA y));have Ka:=bx (Ff.out.ch Kz.out (fun e=>by have e:g2+1=g2:=e;omega));have f3:(w6.setRow g2 (clA y)).cell? ⟨g2+1,0,none⟩=some (.int .i64 0):=Ka.out.cell 0;have z3:=Ka.out.frz 0;have hl3:=Ka.out.lt) | (refine wpList_store_row rfl 27 (.tmp 2) (.tmp 12) rfl g2 (clA y) rfl rfl 27 z7 Qz.out Y9h rfl (W8u y) ?_))
   refine leaves_cons (f:=16) (args:=#[.pointer (some ⟨g2,0,none⟩),.pointer (some ⟨g2+1,0,none⟩)]) (by simp) (by simp [go_sem]) ?_
   refine(X7p g2 (g2+1) _).mono ?_
   rintro e u w7 ⟨rfl,rfl,rfl⟩;have d:=O7.out.far (p:=⟨g2+1,0,none⟩) (by show g2≠g2+1;omega) (.int .i64 0);have d0:=d.cell 0;have d1:=d.cell 1;have d2:=d.cell 2;have d3:=d.cell 3;have d4:=d.cell 4;have d5:=d.cell 5;have d6:=d.cell 6;have e0:((w6.setRow g2 (clA y)).setCell ⟨g2+1,0,none⟩ (.int .i64 0)).cell? ⟨g2+1,0,none⟩=some (.int .i64 0):=(Ka.out.set 0 (.int .i64 0)).cell 0;have hch:Ch w6 ((w6.setRow g2 (clA y)).setCell ⟨g2+1,0,none⟩ (.int .i64 0)) (fun k=>k=g2∨k=g2+1):=(Kz.out.mono (fun k _ e => .inl e)).setCell (fun _ => .inr rfl) _;obtain⟨w8,hw8⟩:∃w8,(w6.setRow g2 (clA y)).setCell ⟨g2+1,0,none⟩ (.int .i64 0)=w8:=⟨_,rfl⟩;rw[hw8]at d0 d1 d2 d3 d4 d5 d6 e0 hch ⊢;simp only[clA,Z19,List.getElem?_cons_zero,Z21]at d0 d1 d2 d3 d4 d5 d6;have hg:=HG.out;refine⟨.tuple #[.agg (clA y),.int .i64 0],by simp [clA,results,Tryd.results6,go_sem,d0,d1,d2,d3,d4,d5,d6,e0],⟨y,HY.out.1,HY.out.2.1,?_,rfl⟩,?_⟩
   ·have h1:=Y7.out.size
    have h2:=Wk.out.size;exact HY.out.2.2.step (fun k hk=>hch.same k hk.2 (fun e=>by have:=hk.1;have:=HVL.out;rcases e with e | e <;> omega)) (fun k hk=>⟨Z08 h1 hk.1,Z07 hk.2 hch.size⟩)
   ·exact((Ch.of_below (S:=fun k=>w.heap.size≤k) (Y7.out.mono (Z00 _))).trans Wk.out (fun k hk e=>by have e:k=gv:=e;omega)).trans hch (fun k hk e=>by rcases e with e | e <;> omega) |>.below (Z00 _) (fun k hk h=>by omega)
open Go.RowKit
set_option linter.unusedSimpArgs false
def kcV (x:Cst):Value := .agg #[.int .i64 x.tag,.int .i64 x.a,.int .i64 x.b,.int .i64 x.num,.string ⟨x.text.toArray⟩]
theorem X6o (x y:Cst) (h:kcV x=kcV y):x=y:=by
 unfold kcV at h;injection h with h
 have key:∀i:Nat,(#[Value.int .i64 x.tag,.int .i64 x.a,.int .i64 x.b,.int .i64 x.num,.string ⟨x.text.toArray⟩]:Array Value)[i]? = (#[Value.int .i64 y.tag,.int .i64 y.a,.int .i64 y.b,.int .i64 y.num,.string ⟨y.text.toArray⟩]:Array Value)[i]? := fun i=>by rw[h]
 have h0:some (Value.int .i64 x.tag)=some (.int .i64 y.tag):=key 0;have h1:some (Value.int .i64 x.a)=some (.int .i64 y.a):=key 1;have h2:some (Value.int .i64 x.b)=some (.int .i64 y.b):=key 2;have h3:some (Value.int .i64 x.num)=some (.int .i64 y.num):=key 3;have h4:some (strQ x.text)=some (strQ y.text):=key 4;injection h0 with h0;injection h0 with _ h0
 injection h1 with h1;injection h1 with _ h1
 injection h2 with h2;injection h2 with _ h2
 injection h3 with h3;injection h3 with _ h3
 injection h4 with h4
 have h4:=Y6l _ _ h4;cases x;cases y
 simp_all
def I64 (k:Int):Prop := -9223372036854775808≤k∧k≤9223372036854775807
structure CstB (x:Cst):Prop where
 tag:I64 x.tag
 a:I64 x.a
 b:I64 x.b
 num:I64 x.num
 text:x.text.length≤2000000
theorem csRow:(39:TypeId)<Tryd.prog.types.size:=Z49 (by kernel_rfl)
theorem csAt:Tryd.prog.keyTypeAt 2 39=true:=by kernel_rfl
theorem csWide:(match Tryd.prog.underlying 39 with | some (.array _ _) | some (.struct _)=>true | _=>false)=true:=by rw[Tryd.underlying39]
theorem csLaw:WideMaps.KeyLaw Tryd.prog 39:=deep_law_laid prLaid (m:=2) (by omega) csRow csAt csWide
theorem csKd:Maps.Keyed Tryd.prog 39:=Maps.Keyed.of_law csLaw
theorem csType:Tryd.prog.keyType 39=true:=by kernel_rfl
theorem csCells:Tryd.prog.cellsOf 39=5:=by kernel_rfl
theorem inCells:Tryd.prog.cellsOf 3=1:=by kernel_rfl
theorem ilCells:Tryd.prog.cellsOf 2=1:=by kernel_rfl
theorem csKey (x:Cst) (h:CstB x):keyOf Tryd.prog 39 (kcV x)=some (.string (keyBytes [.int .i64 x.tag,.int .i64 x.a,.int .i64 x.b,.int .i64 x.num,.string x.text])):=by
 obtain⟨m,hm⟩:=prSize;obtain⟨⟨t1,t2⟩,⟨a1,a2⟩,⟨b1,b2⟩,⟨n1,n2⟩,ht⟩:=h;have e1:(⟨x.text.toArray⟩:ByteArray).size≤maxLen:=by unfold maxLen;show x.text.toArray.size≤_;rw[List.size_toArray];omega
 have w:∀k:Int,-9223372036854775808≤k→k≤9223372036854775807→(Lit.int .i64 k).wf=true:=fun k h1 h2=>by
  have e2:IntKind.i64.min = -9223372036854775808:=(by decide);have e3:IntKind.i64.max=9223372036854775807:=(by decide);simp only[Lit.wf,e2,e3];rw[Z47 h1,Z47 h2]
  rfl
 unfold keyOf;rw[Tryd.underlying39];simp only[csType,Z25];rw[hm];simp [kcV,Value.formed,Value.cells,Program.keyLits,Tryd.underlying39,Tryd.underlying9,Tryd.underlying3,Tryd.underlying2,csCells,stCells,inCells,ilCells,e1,w x.tag t1 t2,w x.a a1 a2,w x.b b1 b2,w x.num n1 n2]
def SeenP (P:List Cst) (x:Cst):Option Value:=(idxK P x).map fun i => .int .i64 ((i:Int)+1)
theorem X2c {P:List Cst} {x q:Cst} (hP:P≠[]) (hx:idxK P x=none):idxK (P++[x]) q=if q=x then some (P.length-1) else idxK P q:=by
 obtain⟨a,R,rfl⟩:∃a R,P=a::R:=(by cases P with | nil=>exact absurd rfl hP | cons a R=>exact⟨a,R,rfl⟩);unfold idxK at hx ⊢;rw[List.cons_append,List.drop_one,List.tail_cons,List.findIdx?_append];rw[List.drop_one,List.tail_cons]at hx ⊢;by_cases h:q=x
 ·subst h
  rw[if_pos rfl,hx]
  simp
 ·rw[if_neg h]
  have e:List.findIdx? (fun y=>decide (y=q)) [x]=none:=by
   have:¬x=q:=fun e=>h e.symm
   simp [this]
  rw[e];cases List.findIdx? (fun y=>decide (y=q)) R <;> rfl
theorem Y2p {P:List Cst} {x:Cst} (hP:P≠[]) (hx:idxK P x=none) (q:Cst):SeenP (P++[x]) q=if q=x then some (.int .i64 (P.length:Int)) else SeenP P q:=by
 unfold SeenP;rw[X2c hP hx];by_cases h:q=x
 ·rw[if_pos h,if_pos h]
  have:0<P.length:=List.length_pos_iff.2 hP
  show some (Value.int .i64 (((P.length-1:Nat):Int)+1))=_;rw[show (((P.length-1:Nat):Int)+1)=(P.length:Int) by omega]
 ·rw[if_neg h,if_neg h]
theorem OwS.cho {α:Type} {fC:α→List Value} {sz:Nat} {w w':World} {base:Nat} {e:TypeId} {v:Value} {l:List α} {S:Nat→Prop} (h:OwS fC sz w base e v l) (c:Ch w w' S) (hS:∀k,v.ownBlock=some k→¬S k):OwS fC sz w' base e v l:=by
 have hs:∀k,v.ownBlock=some k→w'.heap[k]? = w.heap[k]? := fun k hk=>c.same k (World.ownsRow.lt h k hk).2 (hS k hk);refine⟨h.1,?_⟩;rcases h.2 with h0 | ⟨g,cap,cur,hv,hb,hh,r⟩
 ·exact .inl h0
 ·exact .inr ⟨g,cap,cur,hv,hb,(hs g (by rw[hv];rfl)).trans hh,r⟩
structure Fo (w:World) (F:Nat→Prop) (w':World) (F':Nat→Prop):Prop where
 ch:Ch w w' F
 ow:∀k,F' k→F k∨w.heap.size≤k
section
variable {w wx w':World} {F F' F'' G:Nat→Prop}
theorem Fo.refl:Fo w F w F:=⟨Ch.refl w,fun _ e => .inl e⟩
theorem Fo.far (h:Fo w F w' F') {k:Nat} (hk:k<w.heap.size) (hn:¬F k):¬F' k:=fun e=>by
 rcases h.ow k e with e | e
 ·exact hn e
 ·omega
theorem Fo.trans (h:Fo w F wx F') (k:Fo wx F' w' F''):Fo w F w' F'':=
 ⟨h.ch.trans k.ch (fun i hi hs=>by
  rcases h.ow i hs with e | e
  ·exact e
  ·omega),fun i e=>by
  rcases k.ow i e with e | e
  ·exact h.ow i e
  ·exact .inr (Z08 h.ch.size e)⟩
theorem Fo.below (h:Fo w F wx F') (hb:Below wx.heap.size wx w'):Fo w F w' F':=h.trans ⟨Ch.of_below hb,fun _ e => .inl e⟩
theorem Fo.new (hb:Below w.heap.size w w') (h:∀k,F' k→F k∨w.heap.size≤k):Fo w F w' F':=⟨Ch.of_below hb,h⟩
theorem Fo.or (h:Fo w F w' F') (G:Nat→Prop):Fo w (fun k=>F k∨G k) w' (fun k=>F' k∨G k):=
 ⟨h.ch.mono (fun _ _ e => .inl e),fun k e=>by
  rcases e with e | e
  ·rcases h.ow k e with e | e
   ·exact .inl (.inl e)
   ·exact .inr e
  ·exact .inl (.inr e)⟩
theorem Fo.ro (h:Fo w F w' F') (G:Nat→Prop):Fo w (fun k=>G k∨F k) w' (fun k=>G k∨F' k):=
 ⟨h.ch.mono (fun _ _ e => .inr e),fun k e=>by
  rcases e with e | e
  ·exact .inl (.inl e)
  ·rcases h.ow k e with e | e
   ·exact .inl (.inr e)
   ·exact .inr e⟩
theorem Fo.less (h:Fo w F w' F') (hF:∀k,G k→F' k):Fo w F w' G:=⟨h.ch,fun k e=>h.ow k (hF k e)⟩
end
def Mkf (gk gm:Nat) (V:Value) (k:Nat):Prop:=k=gk∨k=gm∨V.ownBlock=some k
abbrev MkC (gk gm:Nat) (w:World) (V:Value) (w':World) (V':Value):Prop:=Fo w (Mkf gk gm V) w' (Mkf gk gm V')
structure MkR (w0 wx:World) (gk gm:Nat) (cs:Array Value) (V:Value) (P:List Cst):Prop where
 box:Bk wx gk 57 (cs.setIfInBounds 2 V)
 csz:cs.size=11
 cm:cs[10]? = some (.map (some gm))
 own:OwS cstC 5 wx w0.heap.size 39 V P
 map:∃n,n≤P.length∧MapT kcV wx Tryd.prog 39 gm n (SeenP P)
 ne:gk≠gm∧V.ownBlock≠some gk∧V.ownBlock≠some gm
 lo:w0.heap.size≤gk∧w0.heap.size≤gm
 cb:∀c∈P,CstB c
 p0:P≠[]
 bel:Below w0.heap.size w0 wx
section
variable {w0 wx w':World} {gk gm:Nat} {cs:Array Value} {V:Value} {P:List Cst}
theorem MkR.foot (h:MkR w0 wx gk gm cs V P):∀k,Mkf gk gm V k→w0.heap.size≤k∧k<wx.heap.size:=fun k e=>by
 rcases e with e | e | e
 ·rw[e];exact⟨h.lo.1,h.box.lt⟩
 ·obtain⟨n,_,hm⟩:=h.map
  rw[e];exact⟨h.lo.2,hm.lt⟩
 ·exact h.own.blk e
theorem MkR.step {S:Nat→Prop} (h:MkR w0 wx gk gm cs V P) (c:Ch wx w' S) (hS:∀k,S k→w0.heap.size≤k∧¬Mkf gk gm V k):MkR w0 w' gk gm cs V P:=by
 have hn:∀k,Mkf gk gm V k→¬S k:=fun k e hk=>(hS k hk).2 e;obtain⟨n,hn1,hm⟩:=h.map;refine⟨h.box.ch c (hn _ (.inl rfl)),h.csz,h.cm,h.own.cho c (fun k e=>hn _ (.inr (.inr e))),⟨n,hn1,?_⟩,h.ne,h.lo,h.cb,h.p0,h.bel.trans (c.below h.bel.size (fun k hk e=>by have:=(hS k e).1;omega))⟩;obtain⟨F,⟨D,⟨es,clock,he,r⟩,q⟩,rr⟩:=hm;exact⟨F,⟨D,⟨es,clock,(c.same gm (h.foot _ (.inr (.inl rfl))).2 (hn _ (.inr (.inl rfl)))).trans he,r⟩,q⟩,rr⟩
theorem MkR.below (h:MkR w0 wx gk gm cs V P) (hb:Below wx.heap.size wx w'):MkR w0 w' gk gm cs V P:=h.step (S:=fun _=>False) (Ch.of_below hb) (fun _ e=>e.elim)
theorem MkR.c2 (h:MkR w0 wx gk gm cs V P):wx.cell? ⟨gk,2,none⟩=some V:=by
 rw[h.box.cell 2,Z46,if_pos (by rw[h.csz];decide)]
theorem MkR.c10 (h:MkR w0 wx gk gm cs V P):wx.cell? ⟨gk,10,none⟩=some (.map (some gm)):=by
 rw[h.box.cell 10,Z45 (by decide),h.cm]
end
theorem MapT.sameB {κ:Type} {f:κ→Value} {w w':World} {P:Program} {k:TypeId} {b n:Nat} {G:κ→Option Value} (h:MapT f w P k b n G) (hb:w'.heap[b]? = w.heap[b]?):MapT f w' P k b n G:=by
 obtain⟨F,h,r⟩:=h;exact⟨F,h.same hb,r⟩
def csCE (x:Cst):Array Value:=#[.int .i64 x.tag,.int .i64 x.a,.int .i64 x.b,.int .i64 x.num,.string ⟨x.text.toArray⟩]
structure MkQ (w0 w wx:World) (gk gm g:Nat) (cs:Array Value) (V0 V:Value) (P:List Cst) (x:Cst) (n':Nat):Prop where
 bk:Bk wx gk 57 (cs.setIfInBounds 2 V)
 csz:cs.size=11
 cm:cs[10]? = some (.map (some gm))
 own:OwS cstC 5 wx w0.heap.size 39 V (P++[x])
 map:MapT kcV wx Tryd.prog 39 gm n' (SeenP P)
 kb:Bk wx g 39 (csCE x)
 ne:gk≠gm∧V.ownBlock≠some gk∧V.ownBlock≠some gm
 lo:w0.heap.size≤gk∧w0.heap.size≤gm
 fo:MkC gk gm w V0 wx V
 bel:Below w0.heap.size w0 wx
theorem MkQ.c2 {w0 w wx:World} {gk gm g:Nat} {cs:Array Value} {V0 V:Value} {P:List Cst} {x:Cst} {n':Nat} (h:MkQ w0 w wx gk gm g cs V0 V P x n'):wx.cell? ⟨gk,2,none⟩=some V:=by
 rw[h.bk.cell 2,Z46,if_pos (by rw[h.csz];decide)]
theorem MkQ.c10 {w0 w wx:World} {gk gm g:Nat} {cs:Array Value} {V0 V:Value} {P:List Cst} {x:Cst} {n':Nat} (h:MkQ w0 w wx gk gm g cs V0 V P x n'):wx.cell? ⟨gk,10,none⟩=some (.map (some gm)):=by
 rw[h.bk.cell 10,Z45 (by decide),h.cm]
theorem MkQ.drewN {w0 w wx:World} {gk gm g:Nat} {cs:Array Value} {V0 V:Value} {P:List Cst} {x:Cst} {n':Nat} (h:MkQ w0 w wx gk gm g cs V0 V P x n') (q:Nat):MkQ w0 w (wx.drewN q) gk gm g cs V0 V P x n':=
 ⟨h.bk.drewN q,h.csz,h.cm,h.own.drewN q,h.map.drewN q,h.kb.drewN q,h.ne,h.lo,h.fo.below (below_drewN (Below.refl _ _) q),h.bel.trans (below_drewN (Below.refl _ _) q)⟩
theorem W9d {w0 w wa w3:World} {gk gm g n':Nat} {cs:Array Value} {V V3:Value} {P:List Cst} {x:Cst} (h:MkR w0 wa gk gm cs V P) (hm:MapT kcV wa Tryd.prog 39 gm n' (SeenP P)) (hk:Bk wa g 39 (csCE x)) (hf:MkC gk gm w V wa V)
  (hO:OwS cstC 5 w3 w0.heap.size 39 V3 (P++[x])) (hg:wa.grownBy w3 V.ownBlock) (hv:V3.ownBlock=V.ownBlock∨V3.ownBlock=some wa.heap.size) (hG:gk<g∧gm<g∧∀k,V.ownBlock=some k→k<g) :
  Bk w3 gk 57 (cs.setIfInBounds 2 V)∧Bk w3 g 39 (csCE x)∧MkQ w0 w (w3.setCell ⟨gk,2,none⟩ V3) gk gm g cs V V3 P x n':=by
 have c1:Ch wa w3 (Fow V):=Ch.of_grown hg (fun k e=>e);have b3:Bk w3 gk 57 (cs.setIfInBounds 2 V):=h.box.ch c1 h.ne.2.1;have k3:Bk w3 g 39 (csCE x):=hk.ch c1 (fun e=>by have:=hG.2.2 g e;omega);have hgk:=h.box.lt;have hgm:=hm.lt
 have v1:V3.ownBlock≠some gk:=by
  rcases hv with e | e
  ·rw[e];exact h.ne.2.1
  ·rw[e];intro e2;injection e2 with e2;omega
 have v2:V3.ownBlock≠some gm:=by
  rcases hv with e | e
  ·rw[e];exact h.ne.2.2
  ·rw[e];intro e2;injection e2 with e2;omega
 have c4:Ch wa (w3.setCell ⟨gk,2,none⟩ V3) (Mkf gk gm V):=(c1.mono (fun _ _ e => .inr (.inr e))).setCell (fun _ => .inl rfl) _;refine⟨b3,k3,?_,h.csz,h.cm,hO.set_other (p:=⟨gk,2,none⟩) v1 _,hm.sameB ?_,k3.far (p:=⟨gk,2,none⟩) (by show g≠gk;have:=hG.1;omega) _,⟨h.ne.1,v1,v2⟩,h.lo,hf.trans ⟨c4,fun k e=>?_⟩,h.bel.trans (c4.below h.bel.size (fun k hk e=>by have:=(h.foot k e).1;omega))⟩
 ·have:=b3.set 2 V3
  rwa [Array.setIfInBounds_setIfInBounds]at this
 ·exact(Below.heap_setCell w3 ⟨gk,2,none⟩ V3 gm (fun e=>h.ne.1 e.symm)).trans (c1.same gm hgm h.ne.2.2)
 ·rcases e with e | e | e
  ·exact .inl (.inl e)
  ·exact .inl (.inr (.inl e))
  ·rcases hv with e2 | e2
   ·exact .inl (.inr (.inr (e2 ▸ e)))
   ·rw[e2]at e;injection e with e;exact .inr (by omega)
theorem W8n {w0 w wx w':World} {gk gm g n':Nat} {cs:Array Value} {V0 V:Value} {P:List Cst} {x:Cst} (h:MkQ w0 w wx gk gm g cs V0 V P x n') (hcb:∀c∈P,CstB c) (hx:CstB x) (hi:idxK P x=none) (hP:P≠[]) (hn:n'≤P.length)
  (hm:MapT kcV w' Tryd.prog 39 gm (n'+1) (fun q=>if q=x then some (.int .i64 (P.length:Int)) else SeenP P q)) (hg:wx.grownBy w' (some gm)):MkR w0 w' gk gm cs V (P++[x])∧MkC gk gm w V0 w' V:=by
 have c:Ch wx w' (Mkf gk gm V):=Ch.of_grown hg (fun k e=>by injection e with e;exact .inr (.inl e.symm));have hs:∀k,k<wx.heap.size→k≠gm→w'.heap[k]? = wx.heap[k]? := fun k hk hne=>hg.block k hk (fun e=>hne (by injection e));refine⟨⟨(hs gk h.bk.lt h.ne.1).trans h.bk,h.csz,h.cm,OwS.kept h.own hg (.inr h.ne.2.2),⟨n'+1,by rw[Z09];show _≤P.length+1;omega,hm.ext (fun q=>Y2p hP hi q)⟩,h.ne,h.lo,fun y hy=>?_,by simp,h.bel.trans (c.below h.bel.size (fun k hk e=>?_))⟩,h.fo.trans ⟨c,fun k e => .inl e⟩⟩
 ·rcases Z41.1 hy with e | e
  ·exact hcb y e
  ·rcases Z23.1 e with e | e
   ·rw[e];exact hx
   ·cases e
 ·rcases e with e | e | e
  ·have:=h.lo.1;omega
  ·have:=h.lo.2;omega
  ·have:=(h.own.blk e).1;omega
def MkPost (w0 w:World) (gk gm:Nat) (cs:Array Value) (V:Value) (R:List Cst×Nat) (e:Ending) (w':World):Prop:=
 ∃V',e = .returned (.int .i64 (R.2:Int))∧MkR w0 w' gk gm cs V' R.1∧MkC gk gm w V w' V'
open Go.RowKit
set_option linter.unusedSimpArgs false
theorem Y4m (w:World):(zeroValue 3).run Tryd.prog w = .ok (.int .i64 0) w:=by kernel_rfl
theorem Y0b (w0 w:World) (gk gm:Nat) (cs:Array Value) (V:Value) (P:List Cst) (x:Cst) (h:MkR w0 w gk gm cs V P) (hx:CstB x) (hP:P.length≤1000000000) :
  Calls Tryd.prog 20 #[.pointer (some ⟨gk,0,none⟩),kcV x] w (MkPost w0 w gk gm cs V (putK P x)):=by
 obtain⟨R,hR⟩:∃R,putK P x=R:=⟨_,rfl⟩;rw[hR];have HR:=bx hR;obtain⟨A,c,hV,_,_⟩:=h.own.rd;obtain⟨n,hn⟩:∃n,P.length=n:=⟨_,rfl⟩;rw[hn]at hV;subst hV;have HN:=bx hn;obtain⟨n',hn',hmap⟩:=h.map;have HN':Bx (n'≤1000000000):=bx (by omega);have Sw:=bx (csKey x hx);have Jc:=bx hx;have O5:=bx h.cb;have Rn:=bx h.p0;have HNP:Bx (n'≤P.length):=bx hn';have hb1:=Y9z (Below.refl w.heap.size w) (Z00 _) (.cells #[.int .i64 x.tag,.int .i64 x.a,.int .i64 x.b,.int .i64 x.num,.string ⟨x.text.toArray⟩] 39);obtain⟨g,hg⟩:∃g,w.heap.size=g:=⟨_,rfl⟩;have hgk:=h.box.lt;have hgm:=hmap.lt;have HG:Bx (gk<g∧gm<g∧∀k,(Value.slice A n c).ownBlock=some k→k<g):=bx ⟨by omega,by omega,fun k e=>by have:=(h.own.blk e).2;omega⟩;have hkb:=Bk.newAt w 39 #[.int .i64 x.tag,.int .i64 x.a,.int .i64 x.b,.int .i64 x.num,.string ⟨x.text.toArray⟩] hg;have hmk:=h.below hb1;have hma:=hmap.below hb1 hgm;have hmc:MkC gk gm w (.slice A n c) (w.alloc (.cells #[.int .i64 x.tag,.int .i64 x.a,.int .i64 x.b,.int .i64 x.num,.string ⟨x.text.toArray⟩] 39)) (.slice A n c):=Fo.refl.below hb1;obtain⟨ks,hks⟩:∃ks,(SeenP P x).getD (.int .i64 0)=ks:=⟨_,rfl⟩;obtain⟨q,hq⟩:∃q,(SeenP P x).isSome=q:=⟨_,rfl⟩;have Ck:=bx hks;have HQ:=bx hq;have hgw:g<(w.alloc (.cells #[.int .i64 x.tag,.int .i64 x.a,.int .i64 x.b,.int .i64 x.num,.string ⟨x.text.toArray⟩] 39)).heap.size:=hkb.lt;clear h hR hn hn' hmap hx hb1 hks hq;unfold kcV
 go_enter Tryd.func20,Tryd.ntmps20
 go_upto_region 1 with(fail)
 (try rw[hg])
 generalize w.alloc (.cells #[.int .i64 x.tag,.int .i64 x.a,.int .i64 x.b,.int .i64 x.num,.string ⟨x.text.toArray⟩] 39)=w1 at hkb hmk hma hmc hgw ⊢;have Yi:=bx hkb;have Jz:=bx hmk;have Z2:=bx hma;have Sb:=bx hmc;have e0:w1.cell? ⟨g,0,none⟩=some (.int .i64 x.tag):=(hkb.cell 0).trans rfl;have e1:w1.cell? ⟨g,1,none⟩=some (.int .i64 x.a):=(hkb.cell 1).trans rfl;have e2:w1.cell? ⟨g,2,none⟩=some (.int .i64 x.b):=(hkb.cell 2).trans rfl;have e3:w1.cell? ⟨g,3,none⟩=some (.int .i64 x.num):=(hkb.cell 3).trans rfl;have e4:w1.cell? ⟨g,4,none⟩=some (.string ⟨x.text.toArray⟩):=(hkb.cell 4).trans rfl;have c10:w1.cell? ⟨gk,10,none⟩=some (.map (some gm)):=hmk.c10;clear hg hkb hmk hma hmc;refine Y9x (S:=fun w'=>w'.cell? ⟨gk,10,none⟩=some (.map (some gm))∧w'.cell? ⟨g,0,none⟩=some (.int .i64 x.tag)∧w'.cell? ⟨g,1,none⟩=some (.int .i64 x.a)∧w'.cell? ⟨g,2,none⟩=some (.int .i64 x.b)∧w'.cell? ⟨g,3,none⟩=some (.int .i64 x.num)∧w'.cell? ⟨g,4,none⟩=some (.string ⟨x.text.toArray⟩)) (.tk 0 (.tk 1 (.tk 2 (.tk 3 (.tk 4 (.rn 5 (.tk 6 (.tk 7 (.tk 8 (.tk 9 (.tk 10 .fin))))))))))) (by kernel_rfl) (by kernel_rfl) (by kernel_rfl) (fun _ _ _ _ h=>h) ⟨c10,e0,e1,e2,e3,e4⟩ ?_
 iterate 5 (apply SeqW.take;(· rfl);(· (refine Or.inl ⟨?_,?_⟩;(· rfl);(· (intro w hSw;(try dsimp only at hSw);go_simp <;> with_reducible rfl))));simp only[Act.put,Z01,Z02,Z03,Z06,Z04,Z05])
 refine SeqW.run rfl (fun K hK hP=>?_);refine Y8y rfl (.tmp 11) (.tmp 12) _ rfl 3 csKd Tryd.underlying55 (.int .i64 0) (Y4m _) rfl (Z2.out.drewN 1) x _ rfl Sw.out ks q Ck.out HQ.out ?_;refine wpList_nil ?_;refine hK.out _ _ ⟨c10,e0,e1,e2,e3,e4⟩ ?_;clear hK hP K
 iterate 5 (apply SeqW.take;(· rfl);(· (refine Or.inl ⟨?_,?_⟩;(· rfl);(· (intro w hSw;(try dsimp only at hSw);go_simp <;> with_reducible rfl))));simp only[Act.put,Z01,Z02,Z03,Z06,Z04,Z05])
 refine SeqW.done ?_;cases q with
 | true=>
  have hsm:∃i,idxK P x=some i:=by
   have:=HQ.out
   unfold SeenP at this;cases e:idxK P x with
   | none=>rw[e]at this;cases this
   | some i=>exact⟨i,rfl⟩
  obtain⟨i,hi⟩:=hsm;have hR2:R=(P,i+1):=by rw[←HR.out];unfold putK;rw[hi]
  have hk2:ks = .int .i64 ((i:Int)+1):=by rw[←Ck.out];unfold SeenP;rw[hi];rfl
  subst hR2;subst hk2;clear hi HQ Ck HR;go_wp2;go_ret;exact⟨.slice A n c,rfl,Jz.out.below (below_drewN (Below.refl _ _) 1),Sb.out.below (below_drewN (Below.refl _ _) 1)⟩
 | false=>
  have hix:idxK P x=none:=by
   have:=HQ.out
   unfold SeenP at this;cases e:idxK P x with
   | none=>rfl
   | some i=>rw[e]at this;cases this
  have O4:=bx hix;have Wx:Bx (R=(P++[x],P.length)):=bx (by rw[←HR.out];unfold putK;rw[hix]);have We:=bx hP;clear hix HQ Ck HR hP;go_upto_region 4 with(fail)
  have Nn:Bx (MkR w0 w1.drew gk gm cs (.slice A n c) P):=bx (Jz.out.below (below_drewN (Below.refl _ _) 1));have Fe:Bx (MkC gk gm w (.slice A n c) w1.drew (.slice A n c)):=bx (Sb.out.below (below_drewN (Below.refl _ _) 1));have Ma:Bx (Bk w1.drew g 39 #[.int .i64 x.tag,.int .i64 x.a,.int .i64 x.b,.int .i64 x.num,.string ⟨x.text.toArray⟩]):=bx (Yi.out.drewN 1);have Fd:Bx (MapT kcV w1.drew Tryd.prog 39 gm n' (SeenP P)):=bx (Z2.out.drewN 1);clear Jz Sb Yi Z2 e0 e1 e2 e3 e4 c10 hgw;generalize w1.drew=wd at Nn Fe Ma Fd ⊢;have Lx:Bx (MkR w0 wd.drew gk gm cs (.slice A n c) P):=bx (Nn.out.below (below_drewN (Below.refl _ _) 1));have Fc:Bx (MkC gk gm w (.slice A n c) wd.drew (.slice A n c)):=bx (Fe.out.below (below_drewN (Below.refl _ _) 1));have Wc:Bx (Bk wd.drew g 39 #[.int .i64 x.tag,.int .i64 x.a,.int .i64 x.b,.int .i64 x.num,.string ⟨x.text.toArray⟩]):=bx (Ma.out.drewN 1);have Lw:Bx (MapT kcV wd.drew Tryd.prog 39 gm n' (SeenP P)):=bx (Fd.out.drewN 1);have hc0:wd.drew.cell? ⟨gk,2,none⟩=some (.slice A n c):=Lx.out.c2;clear Nn Fe Ma Fd
  go_cut [] from 18 to 29 (fun wx=>∃(A3:Option Addr) (n3 c3:Nat),Bx (n3=P.length+1∧MkQ w0 w wx gk gm g cs (.slice A n c) (.slice A3 n3 c3) P x n'))
  case first=>
   refine Y9x (S:=fun w'=>w'.cell? ⟨g,0,none⟩=some (.int .i64 x.tag)∧w'.cell? ⟨g,1,none⟩=some (.int .i64 x.a)∧w'.cell? ⟨g,2,none⟩=some (.int .i64 x.b)∧w'.cell? ⟨g,3,none⟩=some (.int .i64 x.num)∧w'.cell? ⟨g,4,none⟩=some (.string ⟨x.text.toArray⟩)) (.tk 0 (.tk 1 (.tk 2 (.tk 3 (.tk 4 (.tk 6 (.alt 5 (.rn 7 (.rn 8 (.tk 9 (.tk 10 (.tk 11 (.rn 12 .fin)))))) (.alt 7 (.rn 5 (.rn 8 (.tk 9 (.tk 10 (.tk 11 (.rn 12 .fin)))))) .non)))))))) (by kernel_rfl) (by kernel_rfl) (by kernel_rfl) (fun _ _ _ _ h=>h) ⟨(Wc.out.cell 0).trans rfl,(Wc.out.cell 1).trans rfl,(Wc.out.cell 2).trans rfl,(Wc.out.cell 3).trans rfl,(Wc.out.cell 4).trans rfl⟩ ?_;generalize wd.drew=wz at Lx Fc Wc Lw hc0 ⊢
   iterate 6 (apply SeqW.take;(· rfl);(· (refine Or.inl ⟨?_,?_⟩;(· rfl);(· (intro w hSw;(try dsimp only at hSw);go_simp <;> with_reducible rfl))));simp only[Act.put,Z01,Z02,Z03,Z06,Z04,Z05])
   refine SeqW.both rfl (fun K hK hP=>?_) (SeqW.run rfl (fun K hK hP=>?_))
   ·go_wp2_with fail
    refine hK.out _ _ ⟨(Wc.out.cell 0).trans rfl,(Wc.out.cell 1).trans rfl,(Wc.out.cell 2).trans rfl,(Wc.out.cell 3).trans rfl,(Wc.out.cell 4).trans rfl⟩ ?_;clear hK hP K;refine SeqW.run rfl (fun K hK hP=>?_);go_wp2_with fail
    have Zd:=bx (RS.new (fC:=cstC) wz x #[.int .i64 x.tag,.int .i64 x.a,.int .i64 x.b,.int .i64 x.num,.string ⟨x.text.toArray⟩] rfl 39 (0,0));have Ke:Bx ((P.length+[x].length)*48≤140737488355328):=bx (by simp only[Z11,Z13];have:=We.out;omega);have hbA:=Y9z (Below.refl wz.heap.size wz) (Z00 _) (.cells #[.int .i64 x.tag,.int .i64 x.a,.int .i64 x.b,.int .i64 x.num,.string ⟨x.text.toArray⟩] 39);have Qb:=bx (Lx.out.below hbA);have Fb:=bx (Fc.out.below hbA);have Vd:=bx (Wc.out.below hbA Wc.out.lt);have Fa:=bx (Lw.out.below hbA Lw.out.lt);clear hbA;refine hK.out _ _ ⟨(Vd.out.cell 0).trans rfl,(Vd.out.cell 1).trans rfl,(Vd.out.cell 2).trans rfl,(Vd.out.cell 3).trans rfl,(Vd.out.cell 4).trans rfl⟩ ?_;clear hK hP K;refine SeqW.run rfl (fun K hK hP=>?_);refine Y9y _ cstCels rfl (.tmp 23) (.tmp 25) rfl cstTy (by decide) w0.heap.size (.slice A n c) P rfl Qb.out.own (wz.heap.size+1) (some ⟨wz.heap.size,0,none⟩) 1 1 [x] rfl rfl Zd.out Ke.out Qb.out.bel.size ?_;intro V3 w3 hO3 hg3 hv3 hb3;obtain⟨A3,c3,hV3,_,_⟩:=hO3.rd;obtain⟨n3,hn3⟩:∃n3,(P++[x]).length=n3:=⟨_,rfl⟩;rw[hn3]at hV3;subst hV3;have Xa:=bx (W9d (w:=w) Qb.out Fa.out Vd.out Fb.out hO3 hg3 hv3 HG.out);have Qy:=bx hn3;have Na:=bx hO3;clear hO3 hg3 hv3 hb3 hn3;refine wpList_nil ?_;refine hK.out _ _ ⟨(Xa.out.2.1.cell 0).trans rfl,(Xa.out.2.1.cell 1).trans rfl,(Xa.out.2.1.cell 2).trans rfl,(Xa.out.2.1.cell 3).trans rfl,(Xa.out.2.1.cell 4).trans rfl⟩ ?_;clear hK hP K
    iterate 3 (apply SeqW.take;(· rfl);(· (refine Or.inl ⟨?_,?_⟩;(· rfl);(· (intro w hSw;(try dsimp only at hSw);go_simp <;> with_reducible rfl))));simp only[Act.put,Z01,Z02,Z03,Z06,Z04,Z05])
    refine SeqW.run rfl (fun K hK hP=>?_);have hc2:w3.cell? ⟨gk,2,none⟩=some (.slice A n c):=(by rw[Xa.out.1.cell 2,Z46,if_pos (by rw[Xa.out.2.2.csz];decide)]);have hf2:=Xa.out.1.frz 2;have hgk3:=Xa.out.1.lt;go_wp2_with fail
    refine hK.out _ _ ⟨(Xa.out.2.2.kb.cell 0).trans rfl,(Xa.out.2.2.kb.cell 1).trans rfl,(Xa.out.2.2.kb.cell 2).trans rfl,(Xa.out.2.2.kb.cell 3).trans rfl,(Xa.out.2.2.kb.cell 4).trans rfl⟩ ?_;clear hK hP K hc2 hf2 hgk3;refine SeqW.done ?_
    (try simp only[Act.put,Z01,Z02,Z03])
    go_wp2
    go_meet
    exact⟨A3,n3,c3,bx ⟨by rw[←Qy.out];simp,Xa.out.2.2⟩⟩
   ·go_wp2_with fail
    have hkbA:Bk (wz.alloc (.cells #[.int .i64 x.tag,.int .i64 x.a,.int .i64 x.b,.int .i64 x.num,.string ⟨x.text.toArray⟩] 39)) g 39 #[.int .i64 x.tag,.int .i64 x.a,.int .i64 x.b,.int .i64 x.num,.string ⟨x.text.toArray⟩]:=Wc.out.alloc _;refine hK.out _ _ ⟨(hkbA.cell 0).trans rfl,(hkbA.cell 1).trans rfl,(hkbA.cell 2).trans rfl,(hkbA.cell 3).trans rfl,(hkbA.cell 4).trans rfl⟩ ?_;clear hK hP K hkbA;refine SeqW.run rfl (fun K hK hP=>?_);have hcA:(wz.alloc (.cells #[.int .i64 x.tag,.int .i64 x.a,.int .i64 x.b,.int .i64 x.num,.string ⟨x.text.toArray⟩] 39)).cell? ⟨gk,2,none⟩=some (.slice A n c):=(Lx.out.below (Y9z (Below.refl wz.heap.size wz) (Z00 _) (.cells #[.int .i64 x.tag,.int .i64 x.a,.int .i64 x.b,.int .i64 x.num,.string ⟨x.text.toArray⟩] 39))).c2;go_wp2_with fail
    clear hcA;have Zd:=bx (RS.new (fC:=cstC) wz x #[.int .i64 x.tag,.int .i64 x.a,.int .i64 x.b,.int .i64 x.num,.string ⟨x.text.toArray⟩] rfl 39 (0,0));have Ke:Bx ((P.length+[x].length)*48≤140737488355328):=bx (by simp only[Z11,Z13];have:=We.out;omega);have hbA:=Y9z (Below.refl wz.heap.size wz) (Z00 _) (.cells #[.int .i64 x.tag,.int .i64 x.a,.int .i64 x.b,.int .i64 x.num,.string ⟨x.text.toArray⟩] 39);have Qb:=bx (Lx.out.below hbA);have Fb:=bx (Fc.out.below hbA);have Vd:=bx (Wc.out.below hbA Wc.out.lt);have Fa:=bx (Lw.out.below hbA Lw.out.lt);clear hbA;refine hK.out _ _ ⟨(Vd.out.cell 0).trans rfl,(Vd.out.cell 1).trans rfl,(Vd.out.cell 2).trans rfl,(Vd.out.cell 3).trans rfl,(Vd.out.cell 4).trans rfl⟩ ?_;clear hK hP K;refine SeqW.run rfl (fun K hK hP=>?_);refine Y9y _ cstCels rfl (.tmp 23) (.tmp 25) rfl cstTy (by decide) w0.heap.size (.slice A n c) P rfl Qb.out.own (wz.heap.size+1) (some ⟨wz.heap.size,0,none⟩) 1 1 [x] rfl rfl Zd.out Ke.out Qb.out.bel.size ?_;intro V3 w3 hO3 hg3 hv3 hb3;obtain⟨A3,c3,hV3,_,_⟩:=hO3.rd;obtain⟨n3,hn3⟩:∃n3,(P++[x]).length=n3:=⟨_,rfl⟩;rw[hn3]at hV3;subst hV3;have Xa:=bx (W9d (w:=w) Qb.out Fa.out Vd.out Fb.out hO3 hg3 hv3 HG.out);have Qy:=bx hn3;have Na:=bx hO3;clear hO3 hg3 hv3 hb3 hn3;refine wpList_nil ?_;refine hK.out _ _ ⟨(Xa.out.2.1.cell 0).trans rfl,(Xa.out.2.1.cell 1).trans rfl,(Xa.out.2.1.cell 2).trans rfl,(Xa.out.2.1.cell 3).trans rfl,(Xa.out.2.1.cell 4).trans rfl⟩ ?_;clear hK hP K
    iterate 3 (apply SeqW.take;(· rfl);(· (refine Or.inl ⟨?_,?_⟩;(· rfl);(· (intro w hSw;(try dsimp only at hSw);go_simp <;> with_reducible rfl))));simp only[Act.put,Z01,Z02,Z03,Z06,Z04,Z05])
    refine SeqW.run rfl (fun K hK hP=>?_);have hc2:w3.cell? ⟨gk,2,none⟩=some (.slice A n c):=(by rw[Xa.out.1.cell 2,Z46,if_pos (by rw[Xa.out.2.2.csz];decide)]);have hf2:=Xa.out.1.frz 2;have hgk3:=Xa.out.1.lt;go_wp2_with fail
    refine hK.out _ _ ⟨(Xa.out.2.2.kb.cell 0).trans rfl,(Xa.out.2.2.kb.cell 1).trans rfl,(Xa.out.2.2.kb.cell 2).trans rfl,(Xa.out.2.2.kb.cell 3).trans rfl,(Xa.out.2.2.kb.cell 4).trans rfl⟩ ?_;clear hK hP K hc2 hf2 hgk3;refine SeqW.done ?_
    (try simp only[Act.put,Z01,Z02,Z03])
    go_wp2
    go_meet
    exact⟨A3,n3,c3,bx ⟨by rw[←Qy.out];simp,Xa.out.2.2⟩⟩
  case rest=>
   obtain⟨A3,n3,c3,hQ⟩:=hcut;have HQ:=bx hQ.out;have k2:wc.cell? ⟨gk,2,none⟩=some (.slice A3 n3 c3):=HQ.out.2.c2;have k10:wc.cell? ⟨gk,10,none⟩=some (.map (some gm)):=HQ.out.2.c10;have e0:wc.cell? ⟨g,0,none⟩=some (.int .i64 x.tag):=(HQ.out.2.kb.cell 0).trans rfl;have e1:wc.cell? ⟨g,1,none⟩=some (.int .i64 x.a):=(HQ.out.2.kb.cell 1).trans rfl;have e2:wc.cell? ⟨g,2,none⟩=some (.int .i64 x.b):=(HQ.out.2.kb.cell 2).trans rfl;have e3:wc.cell? ⟨g,3,none⟩=some (.int .i64 x.num):=(HQ.out.2.kb.cell 3).trans rfl;have e4:wc.cell? ⟨g,4,none⟩=some (.string ⟨x.text.toArray⟩):=(HQ.out.2.kb.cell 4).trans rfl;clear hQ;go_step;go_upto_region 5 with(fail)
   refine Y9x (S:=fun w'=>w'.cell? ⟨gk,2,none⟩=some (.slice A3 n3 c3)∧w'.cell? ⟨gk,10,none⟩=some (.map (some gm))∧w'.cell? ⟨g,0,none⟩=some (.int .i64 x.tag)∧w'.cell? ⟨g,1,none⟩=some (.int .i64 x.a)∧w'.cell? ⟨g,2,none⟩=some (.int .i64 x.b)∧w'.cell? ⟨g,3,none⟩=some (.int .i64 x.num)∧w'.cell? ⟨g,4,none⟩=some (.string ⟨x.text.toArray⟩)) (.tk 0 (.tk 1 (.tk 2 (.tk 3 (.tk 4 (.tk 5 (.tk 6 (.tk 7 (.tk 8 (.tk 9 (.tk 10 (.tk 11 (.rn 12 .fin))))))))))))) (by kernel_rfl) (by kernel_rfl) (by kernel_rfl) (fun _ _ _ _ h=>h) ⟨k2,k10,e0,e1,e2,e3,e4⟩ ?_;clear k2 k10 e0 e1 e2 e3 e4
   iterate 12 (apply SeqW.take;(· rfl);(· (refine Or.inl ⟨?_,?_⟩;(· rfl);(· (intro w hSw;(try dsimp only at hSw);go_simp <;> with_reducible rfl))));simp only[Act.put,Z01,Z02,Z03,Z06,Z04,Z05])
   refine SeqW.run rfl (fun K hK hP=>?_);have hn4:n'<maxLen:=by have:=HN'.out;unfold maxLen;omega
   refine Y8l rfl (.tmp 33) (.tmp 34) (.tmp 41) _ rfl 3 csKd Tryd.underlying55 rfl (HQ.out.2.map.drewN 1) X6o hn4 x (.int .i64 (IntKind.i64.wrap ((n3:Int)-1))) _ rfl rfl Sw.out ?_;intro w6 hm6 hg6;have hn5:IntKind.i64.wrap ((n3:Int)-1)=(P.length:Int):=by have:=We.out;have:=HQ.out.1;rw[IntWalk.i64_in _ (by omega)];omega
   rw[hn5]at hm6;have hkb6:Bk w6 g 39 (csCE x):=(HQ.out.2.kb.drewN 1).grown hg6 (fun e=>by injection e with e;have:=HG.out.2.1;omega);have hbk6:Bk w6 gk 57 (cs.setIfInBounds 2 (.slice A3 n3 c3)):=(HQ.out.2.bk.drewN 1).grown hg6 (fun e=>by injection e with e;exact HQ.out.2.ne.1 e);have hD:=W8n (w:=w) (HQ.out.2.drewN 1) O5.out Jc.out O4.out Rn.out HNP.out hm6 hg6;have hk2:w6.cell? ⟨gk,2,none⟩=some (.slice A3 n3 c3):=hD.1.c2;have hk10:w6.cell? ⟨gk,10,none⟩=some (.map (some gm)):=hD.1.c10;refine wpList_nil ?_;refine hK.out _ _ ⟨hk2,hk10,(hkb6.cell 0).trans rfl,(hkb6.cell 1).trans rfl,(hkb6.cell 2).trans rfl,(hkb6.cell 3).trans rfl,(hkb6.cell 4).trans rfl⟩ ?_;have Jy:=bx hn5;clear hK hP K hn4 hn5 hkb6 hbk6 hk10 hm6 hg6;have HD:=bx hD;clear hD;refine SeqW.done ?_;go_wp2;go_ret;rw[Wx.out];exact⟨_,ret_v (congrArg (Value.int IntKind.i64) ((IntWalk.i64_left _).symm.trans Jy.out)),HD.out⟩
open Go.RowKit
set_option linter.unusedSimpArgs false
theorem klBTy:ETy Tryd.prog 62 5 (.int .u8 0) 1 1:=by
 obtain⟨i,h1,h2,h3,h4⟩:=byteTyP.info;exact⟨Tryd.underlying62,⟨i,h1,h2,h3,h4⟩,rfl,by decide⟩
def BPost (w:World) (base:Nat) (v:Value) (l:List UInt8) (e:Ending) (w':World):Prop:=
 ∃v',e = .returned v'∧OwB w' base 5 v' l∧Fo w (Fow v) w' (Fow v')
theorem fo_of {w w':World} {v v':Value} (h:Ch w w' (Fow v)) (k:OwnN w v v'):Fo w (Fow v) w' (Fow v'):=⟨h,fun i e=>by
 have e:v'.ownBlock=some i:=e;rcases k with k | ⟨b,k,hb⟩
 ·exact .inl (by show v.ownBlock=some i;rw[←k];exact e)
 ·rw[k]at e;injection e with e;exact .inr (by omega)⟩
theorem Y8f (base n k c:Nat) (v:Value) (o:List UInt8) (A:Option Addr) (xs:List Int) (w:World) (h:OwB w base 5 v o) (hb:base≤w.heap.size) (hx:xs.length=k) (hX:RL iV w w.heap.size A xs) (hA:xs≠[]→∀ad,A=some ad→¬Fow v ad.block)
  (h1:1≤n) (h8:n≤8) (hk:k≤64) (ho:o.length≤1000000000000) :
  Calls Tryd.prog 12 #[v,.int .i64 (n:Int),.slice A k c] w (BPost w base v (o++xs.flatMap (beB n))):=by
 have HX:=bx hX;have HL:=bx hx;have HO:=bx ho;have HA:=bx hA;have H0:Bx (OwB w base 5 v (o++(xs.take 0).flatMap (beB n))):=bx (by simpa using h);have C0:Bx (Ch w w (Fow v)):=bx (Ch.refl w);clear h hx hX hA ho
 go_enter Tryd.func12,Tryd.ntmps12
 go_wp2_with fail
 go_loopw [0,11] (fun bv iv wx=>∃(j:Nat) (vj:Value),j≤k∧vj=bv∧iv = .int .i64 (j:Int)∧Bx (OwB wx base 5 vj (o++(xs.take j).flatMap (beB n)))∧Bx (Ch w wx (Fow v))∧Bx (OwnN w v vj)) (fun _ iv _=>k-(intOf iv).toNat)
 case atStart=>exact⟨0,v,by omega,rfl,rfl,H0,C0,bx OwnN.refl⟩
 case round=>
  clear H0 C0;obtain⟨j,vj,hj,rfl,rfl,HR,HC,HJ⟩:=hrel;have hwr:=HC.out.size;by_cases hjk:j<k
  ·have hjI:(j:Int)<(k:Int):=by omega
   obtain⟨x,hxx⟩:∃x,xs[j]? = some x:=⟨_,Z33 (by rw[HL.out];exact hjk)⟩;have E2:=bx hxx;have hXr:RL iV wr w.heap.size A xs:=HX.out.ch HC.out (Z00 _) (HA.out (fun e=>by have:=HL.out;rw[e]at this;simp at this;omega));obtain⟨ad,y,rfl,had,hy,hcy⟩:=RL.atl hXr (k:=j) (by rw[HL.out];exact hjk);obtain rfl:x=y:=by have:=E2.out.symm.trans hy.out;injection this
   have O3:=bx (X1g n x wr h1 h8)
   have hlen:(o++(xs.take j).flatMap (beB n)).length≤1000000000512:=by
    rw[Z09,X4x,Z29];have h9:n*min j xs.length≤8*64:=Nat.mul_le_mul h8 (by omega)
    have:=HO.out
    omega
   obtain⟨ol,hol⟩:∃ol,o++(xs.take j).flatMap (beB n)=ol:=⟨_,rfl⟩;have Kx:=bx hol;rw[hol]at HR hlen;have HN:Bx ((ol.length+(beB n x).length)*1≤140737488355328):=bx (by rw[beB_len];omega);have HB:Bx (base≤wr.heap.size):=bx (by omega);clear hxx hy hXr hlen hol
   go_wp2_with (first
    | (go_at_call 21;refine O3.out.mono ?_;rintro e w1 ⟨r,rfl,hr1,hb1⟩;obtain⟨A1,c1,rfl,hr2,_,_⟩:=hr1.rd;have Zl:=bx hb1;have Xd:=bx hr2;have Yb:=bx (HR.out.below hb1);clear hr1 hr2 hb1)
    | (at_builtin;refine Y5q w1 Y5i rfl (.tmp 15) (.tmp 18) rfl klBTy Tryd.underlying28 (by decide) base vj ol rfl Yb.out w1.heap.size A1 (beB n x).length c1 (beB n x) rfl rfl Xd.out HN.out (Z08 HB.out Zl.out.size) ?_;intro v5 w5 hO5 hg5 hv5 hb5))
   have N1:Bx (OwB w5 base 5 v5 (o++(xs.take (j+1)).flatMap (beB n))):=bx (by
    rw[Y6g E2.out,List.flatMap_append,←List.append_assoc,Kx.out]
    simpa using hO5)
   have N2:=bx (X2f HC.out HJ.out Zl.out hg5 hv5);clear hO5 hg5 hv5 hb5;go_roundw
   case rel=>exact⟨j+1,_,by omega,rfl,by go_num,N1,bx N2.out.1,bx N2.out.2⟩
   case measure=>simp [intOf];omega
  ·obtain rfl:j=k:=by omega
   have hjI:¬(j:Int)<(j:Int):=(by omega);have hF:Bx (OwB wr base 5 vj (o++xs.flatMap (beB n))):=bx (by have:=HR.out;rwa [Z15 (by rw[HL.out];omega)]at this);go_wp2;go_ret;exact⟨vj,rfl,hF.out,fo_of HC.out HJ.out⟩
open Go.RowKit
set_option linter.unusedSimpArgs false
theorem i64_small (n:Nat) (h:n≤1000000001):I64 (n:Int):=⟨by omega,by omega⟩
theorem i64_0:I64 0:=⟨by decide,by decide⟩
theorem i64_1:I64 1:=⟨by decide,by decide⟩
theorem i64_7:I64 7:=⟨by decide,by decide⟩
theorem X5y {s:List UInt8} (h:s.length≤2000000):CstB ⟨1,0,0,0,s⟩:=⟨i64_1,i64_0,i64_0,i64_0,h⟩
theorem X8k {n:Nat} (h:n≤1000000001):CstB ⟨7,n,0,0,[]⟩:=⟨i64_7,i64_small n h,i64_0,i64_0,Z35 _⟩
theorem Y9k (w0 w:World) (gk gm:Nat) (cs:Array Value) (V:Value) (P:List Cst) (s:List UInt8) (h:MkR w0 w gk gm cs V P) (hs:s.length≤2000000) (hP:P.length≤1000000000) :
  Calls Tryd.prog 11 #[.pointer (some ⟨gk,0,none⟩),.string ⟨s.toArray⟩] w (MkPost w0 w gk gm cs V (ptxK P s)):=by
 have HP:=bx (Y0b w0 w gk gm cs V P ⟨1,0,0,0,s⟩ h (X5y hs) hP);unfold ptxK;clear h hs hP
 go_enter Tryd.func11,Tryd.ntmps11
 go_wp2_with (go_at_call 20;refine HP.out.mono ?_;rintro e w1 ⟨V',rfl,h1,h2⟩)
 go_ret;exact⟨V',rfl,h1,h2⟩
theorem Y8b (w0 w:World) (gk gm:Nat) (cs:Array Value) (V:Value) (P:List Cst) (s:List UInt8) (h:MkR w0 w gk gm cs V P) (hs:s.length≤2000000) (hP:P.length≤900000000) :
  Calls Tryd.prog 10 #[.pointer (some ⟨gk,0,none⟩),.string ⟨s.toArray⟩] w (MkPost w0 w gk gm cs V (pclK P s)):=by
 have HT:=bx (Y9k w0 w gk gm cs V P s h hs (by omega));obtain⟨R,hR⟩:∃R,ptxK P s=R:=⟨_,rfl⟩;have hl:=Y8t P s;have ha:=W5n P s;unfold pclK;rw[hR]at HT hl ha ⊢;have HL:Bx (R.1.length≤1000000000∧R.2≤1000000001):=bx (by omega);clear h hs hP hR hl ha
 go_enter Tryd.func10,Tryd.ntmps10
 go_wp2_with (first
  | (go_at_call 11;refine HT.out.mono ?_;rintro e w1 ⟨V1,rfl,h1,h2⟩;have HQ:=bx (Y0b w0 w1 gk gm cs V1 R.1 ⟨7,R.2,0,0,[]⟩ h1 (X8k HL.out.2) HL.out.1);have Zt:=bx h2;clear h1 h2)
  | (go_at_call 20;refine HQ.out.mono ?_;rintro e w2 ⟨V2,rfl,h3,h4⟩))
 go_ret;exact⟨V2,rfl,h3,Zt.out.trans h4⟩
structure BkR (w0 wx:World) (gk gm:Nat) (cs:Array Value) (V:Value) (P:List Cst) (base:Nat) (v:Value) (o:List UInt8):Prop where
 mkr:MkR w0 wx gk gm cs V P
 ow:OwB wx base 5 v o
 lo:w0.heap.size≤base∧base≤wx.heap.size
 ne:∀k,Fow v k→¬Mkf gk gm V k
def BkF (gk gm:Nat) (V v:Value) (k:Nat):Prop:=Mkf gk gm V k∨Fow v k
abbrev BkC (gk gm:Nat) (w:World) (V v:Value) (w':World) (V' v':Value):Prop:=Fo w (BkF gk gm V v) w' (BkF gk gm V' v')
section
variable {w0 wx w':World} {gk gm:Nat} {cs:Array Value} {V V':Value} {P P':List Cst} {base:Nat} {v v':Value} {o o':List UInt8}
theorem BkR.foot (h:BkR w0 wx gk gm cs V P base v o):∀k,BkF gk gm V v k→w0.heap.size≤k∧k<wx.heap.size:=fun k e=>by
 rcases e with e | e
 ·exact h.mkr.foot k e
 ·have:=World.ownsRow.lt h.ow k e
  exact⟨Z08 h.lo.1 this.1,this.2⟩
theorem BkR.put (h:BkR w0 wx gk gm cs V P base v o) (ho:OwB w' base 5 v' o') (f:Fo wx (Fow v) w' (Fow v')):BkR w0 w' gk gm cs V P base v' o'∧BkC gk gm wx V v w' V v':=
 ⟨⟨h.mkr.step f.ch (fun k e=>⟨(h.foot k (.inr e)).1,h.ne k e⟩),ho,⟨h.lo.1,Z08 h.lo.2 f.ch.size⟩,fun k e e2=>by
  have hk:=(h.mkr.foot k e2).2;rcases f.ow k e with e3 | e3
  ·exact h.ne k e3 e2
  ·omega⟩,f.ro _⟩
theorem BkR.on (h:BkR w0 wx gk gm cs V P base v o) (hm:MkR w0 w' gk gm cs V' P') (f:MkC gk gm wx V w' V'):BkR w0 w' gk gm cs V' P' base v o∧BkC gk gm wx V v w' V' v:=
 ⟨⟨hm,OwL.ch h.ow f.ch (fun k e=>h.ne k e),⟨h.lo.1,Z08 h.lo.2 f.ch.size⟩,fun k e e2=>by have hk:=(World.ownsRow.lt h.ow k e).2;exact f.far hk (h.ne k e) e2⟩,f.or _⟩
theorem BkR.below (h:BkR w0 wx gk gm cs V P base v o) (hb:Below wx.heap.size wx w'):BkR w0 w' gk gm cs V P base v o:=
 ⟨h.mkr.below hb,h.ow.below hb,⟨h.lo.1,Z08 h.lo.2 hb.size⟩,h.ne⟩
end
theorem Y8v (w0 wx:World) (gk gm:Nat) (cs:Array Value) (V:Value) (P:List Cst) (base:Nat) (v:Value) (o l:List UInt8) (n k:Nat) (xs:List Int) (ca:Array Value) (h:BkR w0 wx gk gm cs V P base v o) (hx:xs.length=k) (hc:ca.toList=xs.map iV)
  (h1:1≤n) (h8:n≤8) (hk:k≤64) (ho:o.length≤1000000000000) (hl:o++xs.flatMap (beB n)=l) :
  Calls Tryd.prog 12 #[v,.int .i64 (n:Int),.slice (some ⟨wx.heap.size,0,none⟩) k k] (wx.alloc (.cells ca 3)) fun e w'=>∃v',e = .returned v'∧BkR w0 w' gk gm cs V P base v' l∧BkC gk gm wx V v w' V v':=by
 have hb:=Y9z (Below.refl wx.heap.size wx) (Z00 _) (.cells ca 3);have h2:=h.below hb
 refine(Y8f base n k k v o _ xs _ h2.ow h2.lo.2 hx (RL.top (RL.news wx xs ca hc _ _)) ?_ h1 h8 hk ho).mono ?_
 ·intro _ ad e hf
  injection e with e
  subst e
  have:=(h.foot _ (.inr hf)).2
  exact Nat.lt_irrefl _ this
 ·rintro e w' ⟨v',rfl,ho',hf⟩
  rw[hl]at ho';obtain⟨r1,r2⟩:=h2.put ho' hf;exact⟨v',rfl,r1,(Fo.refl.below hb).trans r2⟩
open Go.RowKit
set_option linter.unusedSimpArgs false
def MbPost (w0 w:World) (gk gm:Nat) (cs:Array Value) (V:Value) (base:Nat) (v:Value) (o:List UInt8) (R:List Cst×List UInt8) (e:Ending) (w':World):Prop:=
 ∃V' v',e = .returned v'∧BkR w0 w' gk gm cs V' R.1 base v' (o++R.2)∧BkC gk gm w V v w' V' v'
structure VtOk (x:Vt):Prop where
 name:x.name.length≤2000000
theorem Y8a (w0 w:World) (gk gm:Nat) (cs:Array Value) (V:Value) (P:List Cst) (base:Nat) (v:Value) (o:List UInt8) (A:Option Addr) (n c:Nat) (l:List Vt) (h:BkR w0 w gk gm cs V P base v o) (hl:l.length=n) (hr:RS vtC w0 w0.heap.size A l) (hN:∀x∈l,VtOk x)
  (hP:P.length≤800000000) (ho:o.length≤900000000000) (hn:n≤1000000) :
  Calls Tryd.prog 53 #[.pointer (some ⟨gk,0,none⟩),v,.slice A n c] w (MbPost w0 w gk gm cs V base v o (rowK mvtK P l)):=by
 have HR:=bx hr;have HL:=bx hl;have HN:=bx hN;have HO:=bx ho;have We:=bx hP;have H0:Bx (BkR w0 w gk gm cs V (rowK mvtK P (l.take 0)).1 base v (o++(rowK mvtK P (l.take 0)).2)):=bx (by simpa [rowK] using h);have C0:Bx (BkC gk gm w V v w V v):=bx Fo.refl;clear h hl hr hN ho hP
 go_enter Tryd.func53,Tryd.ntmps53
 go_wp2_with fail
 go_loopw [1,11] (fun bv iv wx=>∃(j:Nat) (Vj vj:Value),j≤n∧vj=bv∧iv = .int .i64 (j:Int)∧Bx (BkR w0 wx gk gm cs Vj (rowK mvtK P (l.take j)).1 base vj (o++(rowK mvtK P (l.take j)).2))∧Bx (BkC gk gm w V v wx Vj vj)) (fun _ iv _=>n-(intOf iv).toNat)
 case atStart=>exact⟨0,V,v,by omega,rfl,rfl,H0,C0⟩
 case round=>
  clear H0 C0;obtain⟨j,Vj,vj,hj,rfl,rfl,HB,HC⟩:=hrel;by_cases hjn:j<n
  ·have hjI:(j:Int)<(n:Int):=by omega
   obtain⟨ad,t,rfl,hlt,HT,q0,q1⟩:=(HR.out.below HB.out.mkr.bel (Z00 _)).at_ vtCels (k:=j) (by rw[HL.out];exact hjn);obtain⟨kd,nm,at_⟩:=t;have Vi:=bx HT.out;have p0:=q0 _ rfl;have p1:=q1 0 _ rfl;have p2:=q1 1 _ rfl;simp only[Z22,Nat.reduceAdd]at p1 p2;unfold strQ at p1;clear q0 q1 HT hlt;have Wi:Bx (nm.length≤2000000):=bx (HN.out _ (Z16 Vi.out)).name;have hlen:=Y3k P (l.take j);have hnx:=Y7b mvtK P Vi.out;obtain⟨R,hR⟩:∃R,rowK mvtK P (l.take j)=R:=⟨_,rfl⟩;rw[hR]at HB hlen hnx;have Zb:=bx hnx
   have Xy:Bx (R.1.length≤802000000∧(o++R.2).length≤900003000000):=bx (by
    have:=We.out
    have:=HO.out
    rw[Z09];rw[Z29]at hlen;omega)
   obtain⟨C,hCs⟩:∃C,wr.heap.size=C:=⟨_,rfl⟩;have Yi:=bx (Bk.newAt wr 91 #[.int .i64 kd,.string ⟨nm.toArray⟩,.int .i64 at_] hCs);have Yu:=bx (Y9z (Below.refl wr.heap.size wr) (Z00 _) (.cells #[.int .i64 kd,.string ⟨nm.toArray⟩,.int .i64 at_] 91));have Vc:Bx (¬BkF gk gm Vj vj C):=bx (fun e=>by have:=(HB.out.foot _ e).2;omega);have Ws:=bx hCs;clear hCs hlen hnx hR;go_upto_region 4 with(fail)
   rw[Ws.out];generalize wr.alloc (.cells #[.int .i64 kd,.string ⟨nm.toArray⟩,.int .i64 at_] 91)=wb at Yi Yu ⊢;have Zl:=bx (HB.out.below Yu.out);have Zt:=bx (HC.out.below Yu.out);have c0:wb.cell? ⟨C,0,none⟩=some (.int .i64 kd):=(Yi.out.cell 0).trans rfl;obtain⟨oa,hoa⟩:∃oa,(o++R.2)++[kd].flatMap (beB 1)=oa:=⟨_,rfl⟩;have Rc:=bx (Y8v w0 wb gk gm cs Vj R.1 base vj (o++R.2) oa 1 1 [kd] #[.int .i64 kd] Zl.out rfl rfl (by decide) (by decide) (by decide) (by have:=Xy.out.2;omega) hoa);have hoal:oa.length≤900003000001:=by rw[←hoa,Z09];have:=Xy.out.2;simp only[Z27,Z37,Z14,beB_len];omega
   have Dz:=bx hoa;have Kx:=bx hoal;clear p0 p1 p2 Ws hoa hoal HB HC;go_upto_region 5 with(refine Rc.out.mono ?_;rintro e w2 ⟨v2,rfl,h2,hc2⟩)
   have Zj:=bx (Yi.out.ch hc2.ch Vc.out);have Qa:Bx (¬BkF gk gm Vj v2 C):=bx (hc2.far Yi.out.lt Vc.out);have Wm:=bx h2;have Yr:=bx (Zt.out.trans hc2);have c0:w2.cell? ⟨C,0,none⟩=some (.int .i64 kd):=(Zj.out.cell 0).trans rfl;clear h2 hc2 Rc Zl Zt;by_cases h7:kd=7
   ·subst h7
    have c1:w2.cell? ⟨C,1,none⟩=some (.string ⟨nm.toArray⟩):=(Zj.out.cell 1).trans rfl;have hpl:=Y6e R.1 nm;have hpa:=X4m R.1 nm;have Sb:=bx (Y8b w0 w2 gk gm cs Vj R.1 nm Wm.out.mkr Wi.out (by have:=Xy.out.1;omega));obtain⟨Q,hQ⟩:∃Q,pclK R.1 nm=Q:=⟨_,rfl⟩;rw[hQ]at Sb hpl hpa;obtain⟨ob,hob⟩:∃ob,oa++[(Q.2:Int)].flatMap (beB 2)=ob:=⟨_,rfl⟩;have HE:Bx (rowK mvtK P (l.take (j+1))=(Q.1,R.2++(beB 1 7++beB 2 Q.2))∧o++(R.2++(beB 1 7++beB 2 Q.2))=ob):=bx ⟨by rw[Zb.out];unfold mvtK;rw[if_pos rfl,hQ],by rw[←hob,←Dz.out];simp⟩;have Gy:=bx hob;clear hQ hob hpl hpa
    go_wp2_with (first
     | (go_at_call 10;refine Sb.out.mono ?_;rintro e w3 ⟨V3,rfl,h3,h4⟩;obtain⟨r1,r2⟩:=Wm.out.on h3 h4;have Xv:=bx r1;have Yw:=bx (Yr.out.trans r2);have Vp:=bx (Y8v w0 w3 gk gm cs V3 Q.1 base v2 oa ob 2 1 [(Q.2:Int)] #[.int .i64 (Q.2:Int)] r1 rfl rfl (by decide) (by decide) (by decide) (by have:=Kx.out;omega) Gy.out);clear h3 h4 r1 r2)
     | (go_at_call 12;refine Vp.out.mono ?_;rintro e w4 ⟨v4,rfl,h4,hc4⟩;have Yj:=bx h4;have Yg:=bx (Yw.out.trans hc4);clear h4 hc4))
    go_roundw
    case rel=>refine⟨j+1,V3,v4,by omega,rfl,by go_num,bx ?_,Yg⟩;rw[HE.out.1];show BkR w0 w4 gk gm cs V3 Q.1 base v4 (o++(R.2++(beB 1 7++beB 2 Q.2)));rw[HE.out.2];exact Yj.out
    case measure=>simp [intOf];omega
   ·have h7b:(kd==7)=false:=by simpa using h7
    by_cases h8:kd=8
    ·subst h8
     have c2:w2.cell? ⟨C,2,none⟩=some (.int .i64 at_):=(Zj.out.cell 2).trans rfl;obtain⟨ob,hob⟩:∃ob,oa++[at_].flatMap (beB 2)=ob:=⟨_,rfl⟩;have HE:Bx (rowK mvtK P (l.take (j+1))=(R.1,R.2++(beB 1 8++beB 2 at_))∧o++(R.2++(beB 1 8++beB 2 at_))=ob):=bx ⟨by rw[Zb.out];unfold mvtK;rw[if_neg (show ¬(8:Int)=7 by decide),if_pos rfl],by rw[←hob,←Dz.out];simp⟩;have Vp:=bx (Y8v w0 w2 gk gm cs Vj R.1 base v2 oa ob 2 1 [at_] #[.int .i64 at_] Wm.out rfl rfl (by decide) (by decide) (by decide) (by have:=Kx.out;omega) hob);clear hob h7 h7b
     go_wp2_with (first
      | (go_at_call 12;refine Vp.out.mono ?_;rintro e w4 ⟨v4,rfl,h4,hc4⟩;have Yj:=bx h4;have Yg:=bx (Yr.out.trans hc4);clear h4 hc4))
     go_roundw
     case rel=>refine⟨j+1,Vj,v4,by omega,rfl,by go_num,bx ?_,Yg⟩;rw[HE.out.1];show BkR w0 w4 gk gm cs Vj R.1 base v4 (o++(R.2++(beB 1 8++beB 2 at_)));rw[HE.out.2];exact Yj.out
     case measure=>simp [intOf];omega
    ·have h8b:(kd==8)=false:=by simpa using h8
     have HE:Bx (rowK mvtK P (l.take (j+1))=(R.1,R.2++beB 1 kd)∧o++(R.2++beB 1 kd)=oa):=bx ⟨by rw[Zb.out];unfold mvtK;rw[if_neg h7,if_neg h8],by rw[←Dz.out];simp⟩;clear h7 h8;go_wp2;go_roundw
     case rel=>refine⟨j+1,Vj,v2,by omega,rfl,by go_num,bx ?_,Yr⟩;rw[HE.out.1];show BkR w0 w2 gk gm cs Vj R.1 base v2 (o++(R.2++beB 1 kd));rw[HE.out.2];exact Wm.out
     case measure=>simp [intOf];omega
  ·obtain rfl:j=n:=by omega
   have hjI:¬(j:Int)<(j:Int):=(by omega);have hF:Bx (BkR w0 wr gk gm cs Vj (rowK mvtK P l).1 base vj (o++(rowK mvtK P l).2)):=bx (by have:=HB.out;rwa [Y6p mvtK P (by rw[HL.out];exact Z00 _)]at this);go_wp2;go_ret;exact⟨Vj,vj,rfl,hF.out,HC.out⟩
open Go.RowKit
set_option linter.unusedSimpArgs false
def mkA (ac th su:Int) (I F M:Value) (gm:Nat):Array Value:=#[.int .i64 0,.int .i64 52,.slice none 0 0,.int .i64 ac,.int .i64 th,.int .i64 su,I,F,M,.slice none 0 0,.map (some gm)]
def MkG (gk gm:Nat) (V I F M:Value) (k:Nat):Prop:=Mkf gk gm V k∨Fow I k∨Fow F k∨Fow M k
def MkB (w0:World) (b:Nat) (gk gm:Nat) (V I F M:Value) (k:Nat):Prop:=(w0.heap.size≤k∧gk<k)∧k<b∧¬MkG gk gm V I F M k
structure MkS (w0 wx:World) (b gk gm:Nat) (ac th su:Int) (V I F M:Value) (P:List Cst) (ifs:List Int) (fs ms:List MmE):Prop where
 mkr:MkR w0 wx gk gm (mkA ac th su I F M gm) V P
 i:OwL iV wx w0.heap.size 3 I ifs
 f:OwS memC 4 wx w0.heap.size 43 F fs
 m:OwS memC 4 wx w0.heap.size 43 M ms
 sub:∀x,x∈fs∨x∈ms→MmX wx (MkB w0 b gk gm V I F M) x
 bb:b≤wx.heap.size
 a1:∀k,Fow I k→¬Mkf gk gm V k
 a2:∀k,Fow F k→¬Mkf gk gm V k∧¬Fow I k
 a3:∀k,Fow M k→¬Mkf gk gm V k∧¬Fow I k∧¬Fow F k
theorem Y9i (w:World) (g j:Nat) (u:Value):Ch w (w.setCell ⟨g,j,none⟩ u) (fun k=>k=g):=(Ch.refl w (S:=fun k=>k=g)).setCell (p:=⟨g,j,none⟩) (fun _=>rfl) u
section
variable {w0 wx w3 w':World} {b gk gm:Nat} {ac th su:Int} {V V' I I' F F' M M':Value} {P P':List Cst} {ifs:List Int} {fs ms:List MmE}
theorem MkS.foot (h:MkS w0 wx b gk gm ac th su V I F M P ifs fs ms):∀k,MkG gk gm V I F M k→w0.heap.size≤k∧k<wx.heap.size:=fun k e=>by
 rcases e with e | e | e | e
 ·exact h.mkr.foot k e
 ·exact World.ownsRow.lt h.i k e
 ·exact h.f.blk e
 ·exact h.m.blk e
theorem MkS.far {U:Nat→Prop} (h:MkS w0 wx b gk gm ac th su V I F M P ifs fs ms) (c:Ch wx w' U) (hU:∀k,U k→b≤k∧w0.heap.size≤k∧¬MkG gk gm V I F M k):MkS w0 w' b gk gm ac th su V I F M P ifs fs ms:=
 ⟨h.mkr.step c (fun k e=>⟨(hU k e).2.1,fun e2=>(hU k e).2.2 (.inl e2)⟩),h.i.ch c (fun k e e2=>(hU k e2).2.2 (.inr (.inl e))),h.f.cho c (fun k e e2=>(hU k e2).2.2 (.inr (.inr (.inl e)))),h.m.cho c (fun k e e2=>(hU k e2).2.2 (.inr (.inr (.inr e)))),
  fun x hx=>(h.sub x hx).step (fun k e=>c.same k (Z07 e.2.1 h.bb) (fun e2=>by have:=(hU k e2).1;have:=e.2.1;omega)) (fun _ e=>e),Z08 h.bb c.size,h.a1,h.a2,h.a3⟩
theorem MkS.old {U:Nat→Prop} (h:MkS w0 wx b gk gm ac th su V I F M P ifs fs ms) (c:Ch wx w' U) (hU:∀k,U k→k<gk∧w0.heap.size≤k∧¬MkG gk gm V I F M k):MkS w0 w' b gk gm ac th su V I F M P ifs fs ms:=
 ⟨h.mkr.step c (fun k e=>⟨(hU k e).2.1,fun e2=>(hU k e).2.2 (.inl e2)⟩),h.i.ch c (fun k e e2=>(hU k e2).2.2 (.inr (.inl e))),h.f.cho c (fun k e e2=>(hU k e2).2.2 (.inr (.inr (.inl e)))),h.m.cho c (fun k e e2=>(hU k e2).2.2 (.inr (.inr (.inr e)))),
  fun x hx=>(h.sub x hx).step (fun k e=>c.same k (Z07 e.2.1 h.bb) (fun e2=>by have:=(hU k e2).1;have:=e.1.2;omega)) (fun _ e=>e),Z08 h.bb c.size,h.a1,h.a2,h.a3⟩
theorem MkS.top (h:MkS w0 wx b gk gm ac th su V I F M P ifs fs ms):MkS w0 wx wx.heap.size gk gm ac th su V I F M P ifs fs ms:=
 ⟨h.mkr,h.i,h.f,h.m,fun x hx=>(h.sub x hx).step (fun _ _=>rfl) (fun _ e=>⟨e.1,Z07 e.2.1 h.bb,e.2.2⟩),Z00 _,h.a1,h.a2,h.a3⟩
theorem MkS.below (h:MkS w0 wx b gk gm ac th su V I F M P ifs fs ms) (hb:Below wx.heap.size wx w'):MkS w0 w' b gk gm ac th su V I F M P ifs fs ms:=
 h.far (U:=fun _=>False) (Ch.of_below hb) (fun _ e=>e.elim)
theorem MkS.call (h:MkS w0 wx b gk gm ac th su V I F M P ifs fs ms) (hm:MkR w0 w' gk gm (mkA ac th su I F M gm) V' P') (f:MkC gk gm wx V w' V') :
  MkS w0 w' b gk gm ac th su V' I F M P' ifs fs ms∧Fo wx (MkG gk gm V I F M) w' (MkG gk gm V' I F M):=by
 have hfar:∀k,k<wx.heap.size→¬Mkf gk gm V k→¬Mkf gk gm V' k:=fun k hk hn=>f.far hk hn;have li:∀k,Fow I k→k<wx.heap.size:=fun k e=>(h.foot k (.inr (.inl e))).2;have lf:∀k,Fow F k→k<wx.heap.size:=fun k e=>(h.foot k (.inr (.inr (.inl e)))).2;have lm:∀k,Fow M k→k<wx.heap.size:=fun k e=>(h.foot k (.inr (.inr (.inr e)))).2
 refine⟨⟨hm,h.i.ch f.ch h.a1,h.f.cho f.ch (fun k e=>(h.a2 k e).1),h.m.cho f.ch (fun k e=>(h.a3 k e).1),fun x hx=>(h.sub x hx).step (fun k e=>f.ch.same k (Z07 e.2.1 h.bb) (fun e2=>e.2.2 (.inl e2))) (fun k e=>⟨e.1,e.2.1,fun e2=>?_⟩),Z08 h.bb f.ch.size,
  fun k e=>hfar k (li k e) (h.a1 k e),fun k e=>⟨hfar k (lf k e) (h.a2 k e).1,(h.a2 k e).2⟩,fun k e=>⟨hfar k (lm k e) (h.a3 k e).1,(h.a3 k e).2⟩⟩,f.or _⟩
 rcases e2 with e2 | e2
 ·exact hfar k (Z07 e.2.1 h.bb) (fun e3=>e.2.2 (.inl e3)) e2
 ·exact e.2.2 (.inr e2)
theorem X1n:(mkA ac th su I F M gm).size=11:=rfl
theorem W4n {q:Int}:((mkA ac th su I F M gm).setIfInBounds 2 V).setIfInBounds 4 (.int .i64 q)=(mkA ac q su I F M gm).setIfInBounds 2 V:=rfl
theorem W4k {q:Int}:((mkA ac th su I F M gm).setIfInBounds 2 V).setIfInBounds 5 (.int .i64 q)=(mkA ac th q I F M gm).setIfInBounds 2 V:=rfl
theorem mkA_i:((mkA ac th su I F M gm).setIfInBounds 2 V).setIfInBounds 6 I'=(mkA ac th su I' F M gm).setIfInBounds 2 V:=rfl
theorem mkA_f:((mkA ac th su I F M gm).setIfInBounds 2 V).setIfInBounds 7 F'=(mkA ac th su I F' M gm).setIfInBounds 2 V:=rfl
theorem mkA_m:((mkA ac th su I F M gm).setIfInBounds 2 V).setIfInBounds 8 M'=(mkA ac th su I F M' gm).setIfInBounds 2 V:=rfl
theorem MkR.store {cs cs':Array Value} {j:Nat} {u:Value} (h:MkR w0 wx gk gm cs V P) (e:(cs.setIfInBounds 2 V).setIfInBounds j u=cs'.setIfInBounds 2 V) (hz:cs'.size=11) (hc:cs'[10]? = some (.map (some gm))):MkR w0 (wx.setCell ⟨gk,j,none⟩ u) gk gm cs' V P:=by
 have hsame:∀k,k≠gk→(wx.setCell ⟨gk,j,none⟩ u).heap[k]? = wx.heap[k]? := fun k hk=>Below.heap_setCell wx ⟨gk,j,none⟩ u k (fun e=>hk e);have c:Ch wx (wx.setCell ⟨gk,j,none⟩ u) (fun k=>k=gk):=Y9i _ _ _ _;obtain⟨n,hn,hm⟩:=h.map;refine⟨?_,hz,hc,h.own.set_other (p:=⟨gk,j,none⟩) h.ne.2.1 _,⟨n,hn,hm.sameB (hsame gm (fun e=>h.ne.1 e.symm))⟩,h.ne,h.lo,h.cb,h.p0,h.bel.trans (c.below h.bel.size (fun k hk e=>by have e:k=gk:=e;have:=h.lo.1;omega))⟩
 have:=h.box.set j u
 rwa [e]at this
theorem W9p {G:Nat→Prop} {j:Nat} {u:Value} (hg:G gk):Fo wx G (wx.setCell ⟨gk,j,none⟩ u) G:=⟨(Ch.refl wx).setCell (fun _=>hg) _,fun _ e => .inl e⟩
theorem MkS.set4 (h:MkS w0 wx b gk gm ac th su V I F M P ifs fs ms) (q:Int):MkS w0 (wx.setCell ⟨gk,4,none⟩ (.int .i64 q)) b gk gm ac q su V I F M P ifs fs ms∧Fo wx (MkG gk gm V I F M) (wx.setCell ⟨gk,4,none⟩ (.int .i64 q)) (MkG gk gm V I F M):=by
 have c:Ch wx (wx.setCell ⟨gk,4,none⟩ (.int .i64 q)) (fun k=>k=gk):=Y9i _ _ _ _;exact⟨⟨h.mkr.store W4n rfl rfl,h.i.ch c (fun k e e2=>h.a1 k e (.inl e2)),h.f.cho c (fun k e e2=>(h.a2 k e).1 (.inl e2)),h.m.cho c (fun k e e2=>(h.a3 k e).1 (.inl e2)),fun x hx=>(h.sub x hx).step (fun k e=>c.same k (Z07 e.2.1 h.bb) (fun e2=>e.2.2 (.inl (.inl e2)))) (fun _ e=>e),Z08 h.bb c.size,h.a1,h.a2,h.a3⟩,W9p (.inl (.inl rfl))⟩
theorem MkS.set5 (h:MkS w0 wx b gk gm ac th su V I F M P ifs fs ms) (q:Int):MkS w0 (wx.setCell ⟨gk,5,none⟩ (.int .i64 q)) b gk gm ac th q V I F M P ifs fs ms∧Fo wx (MkG gk gm V I F M) (wx.setCell ⟨gk,5,none⟩ (.int .i64 q)) (MkG gk gm V I F M):=by
 have c:Ch wx (wx.setCell ⟨gk,5,none⟩ (.int .i64 q)) (fun k=>k=gk):=Y9i _ _ _ _;exact⟨⟨h.mkr.store W4k rfl rfl,h.i.ch c (fun k e e2=>h.a1 k e (.inl e2)),h.f.cho c (fun k e e2=>(h.a2 k e).1 (.inl e2)),h.m.cho c (fun k e e2=>(h.a3 k e).1 (.inl e2)),fun x hx=>(h.sub x hx).step (fun k e=>c.same k (Z07 e.2.1 h.bb) (fun e2=>e.2.2 (.inl (.inl e2)))) (fun _ e=>e),Z08 h.bb c.size,h.a1,h.a2,h.a3⟩,W9p (.inl (.inl rfl))⟩
theorem Y9m {v v':Value} {k:Nat} (hv:v'.ownBlock=v.ownBlock∨v'.ownBlock=some wx.heap.size) (e:Fow v' k):Fow v k∨k=wx.heap.size:=by
 have e:v'.ownBlock=some k:=e;rcases hv with h | h
 ·exact .inl (by show v.ownBlock=some k;rw[←h];exact e)
 ·rw[h]at e;injection e with e;exact .inr e.symm
theorem MkS.appI {q:Int} (h:MkS w0 wx b gk gm ac th su V I F M P ifs fs ms) (ho:OwL iV w3 w0.heap.size 3 I' (ifs++[q])) (hg:wx.grownBy w3 I.ownBlock) (hv:I'.ownBlock=I.ownBlock∨I'.ownBlock=some wx.heap.size) :
  Bk w3 gk 57 ((mkA ac th su I F M gm).setIfInBounds 2 V)∧MkS w0 (w3.setCell ⟨gk,6,none⟩ I') b gk gm ac th su V I' F M P (ifs++[q]) fs ms∧Fo wx (MkG gk gm V I F M) (w3.setCell ⟨gk,6,none⟩ I') (MkG gk gm V I' F M):=by
 have c1:Ch wx w3 (Fow I):=Ch.of_grown hg (fun k e=>e);have hm3:MkR w0 w3 gk gm (mkA ac th su I F M gm) V P:=h.mkr.step c1 (fun k e=>⟨(h.foot k (.inr (.inl e))).1,h.a1 k e⟩);have c2:Ch w3 (w3.setCell ⟨gk,6,none⟩ I') (fun k=>k=gk):=Y9i _ _ _ _;have c4:Ch wx (w3.setCell ⟨gk,6,none⟩ I') (fun k=>Fow I k∨k=gk):=(c1.mono (fun _ _ e => .inl e)).trans c2 (fun _ _ e => .inr e);have hl:=h.foot
 have n1:∀k,Fow I' k→¬Mkf gk gm V k:=fun k e e2=>by
  rcases Y9m hv e with e3 | e3
  ·exact h.a1 k e3 e2
  ·have:=(hl k (.inl e2)).2;omega
 have n2:∀k,Fow F k→¬Fow I' k:=fun k e e2=>by
  rcases Y9m hv e2 with e3 | e3
  ·exact(h.a2 k e).2 e3
  ·have:=(hl k (.inr (.inr (.inl e)))).2;omega
 have n3:∀k,Fow M k→¬Fow I' k:=fun k e e2=>by
  rcases Y9m hv e2 with e3 | e3
  ·exact(h.a3 k e).2.1 e3
  ·have:=(hl k (.inr (.inr (.inr e)))).2;omega
 refine⟨hm3.box,⟨hm3.store mkA_i rfl rfl,ho.ch c2 (fun k e e2=>n1 k e (.inl e2)),h.f.cho c4 (fun k e e2=>by
  rcases e2 with e2 | e2
  ·exact(h.a2 k e).2 e2
  ·exact(h.a2 k e).1 (.inl e2)),h.m.cho c4 (fun k e e2=>by
  rcases e2 with e2 | e2
  ·exact(h.a3 k e).2.1 e2
  ·exact(h.a3 k e).1 (.inl e2)),fun x hx=>(h.sub x hx).step (fun k e=>c4.same k (Z07 e.2.1 h.bb) (fun e2=>e.2.2 (by
  rcases e2 with e2 | e2
  ·exact .inr (.inl e2)
  ·exact .inl (.inl e2)))) (fun k e=>⟨e.1,e.2.1,fun e2=>e.2.2 (by
  rcases e2 with e2 | e2 | e2
  ·exact .inl e2
  ·rcases Y9m hv e2 with e3 | e3
   ·exact .inr (.inl e3)
   ·have:=e.2.1;have:=h.bb;omega
  ·exact .inr (.inr e2))⟩),Z08 h.bb c4.size,n1,fun k e=>⟨(h.a2 k e).1,n2 k e⟩,fun k e=>⟨(h.a3 k e).1,n3 k e,(h.a3 k e).2.2⟩⟩,c4.mono (fun k _ e=>?_),fun k e=>?_⟩
 ·rcases e with e | e
  ·exact .inr (.inl e)
  ·exact .inl (.inl e)
 ·rcases e with e | e | e
  ·exact .inl (.inl e)
  ·rcases Y9m hv e with e3 | e3
   ·exact .inl (.inr (.inl e3))
   ·exact .inr (by omega)
  ·exact .inl (.inr (.inr e))
theorem MkS.appF {x:MmE} (h:MkS w0 wx b gk gm ac th su V I F M P ifs fs ms) (hx:MmX wx (MkB w0 wx.heap.size gk gm V I F M) x) (ho:OwS memC 4 w3 w0.heap.size 43 F' (fs++[x])) (hg:wx.grownBy w3 F.ownBlock) (hv:F'.ownBlock=F.ownBlock∨F'.ownBlock=some wx.heap.size) :
  Bk w3 gk 57 ((mkA ac th su I F M gm).setIfInBounds 2 V)∧MkS w0 (w3.setCell ⟨gk,7,none⟩ F') wx.heap.size gk gm ac th su V I F' M P ifs (fs++[x]) ms∧Fo wx (MkG gk gm V I F M) (w3.setCell ⟨gk,7,none⟩ F') (MkG gk gm V I F' M):=by
 have c1:Ch wx w3 (Fow F):=Ch.of_grown hg (fun k e=>e);have hm3:MkR w0 w3 gk gm (mkA ac th su I F M gm) V P:=h.mkr.step c1 (fun k e=>⟨(h.foot k (.inr (.inr (.inl e)))).1,(h.a2 k e).1⟩);have c2:Ch w3 (w3.setCell ⟨gk,7,none⟩ F') (fun k=>k=gk):=Y9i _ _ _ _;have c4:Ch wx (w3.setCell ⟨gk,7,none⟩ F') (fun k=>Fow F k∨k=gk):=(c1.mono (fun _ _ e => .inl e)).trans c2 (fun _ _ e => .inr e);have hl:=h.foot
 have n1:∀k,Fow F' k→¬Mkf gk gm V k∧¬Fow I k:=fun k e=>by
  rcases Y9m hv e with e3 | e3
  ·exact h.a2 k e3
  ·exact⟨fun e2=>by have:=(hl k (.inl e2)).2;omega,fun e2=>by have:=(hl k (.inr (.inl e2))).2;omega⟩
 have n3:∀k,Fow M k→¬Fow F' k:=fun k e e2=>by
  rcases Y9m hv e2 with e3 | e3
  ·exact(h.a3 k e).2.2 e3
  ·have:=(hl k (.inr (.inr (.inr e)))).2;omega
 refine⟨hm3.box,⟨hm3.store mkA_f rfl rfl,h.i.ch c4 (fun k e e2=>by
  rcases e2 with e2 | e2
  ·exact(h.a2 k e2).2 e
  ·exact h.a1 k e (.inl e2)),ho.cho c2 (fun k e e2=>(n1 k e).1 (.inl e2)),h.m.cho c4 (fun k e e2=>by
  rcases e2 with e2 | e2
  ·exact(h.a3 k e).2.2 e2
  ·exact(h.a3 k e).1 (.inl e2)),fun y hy=>?_,c4.size,h.a1,n1,fun k e=>⟨(h.a3 k e).1,(h.a3 k e).2.1,n3 k e⟩⟩,c4.mono (fun k _ e=>?_),fun k e=>?_⟩
 ·have h:=h.top
  have h0:MmX wx (MkB w0 wx.heap.size gk gm V I F M) y:=by
   rcases hy with e | e
   ·rcases Z41.1 e with e | e
    ·exact h.sub y (.inl e)
    ·rcases Z23.1 e with e | e
     ·rw[e];exact hx
     ·cases e
   ·exact h.sub y (.inr e)
  exact h0.step (fun k e=>c4.same k e.2.1 (fun e2=>e.2.2 (by
   rcases e2 with e2 | e2
   ·exact .inr (.inr (.inl e2))
   ·exact .inl (.inl e2)))) (fun k e=>⟨e.1,e.2.1,fun e2=>e.2.2 (by
   rcases e2 with e2 | e2 | e2 | e2
   ·exact .inl e2
   ·exact .inr (.inl e2)
   ·rcases Y9m hv e2 with e3 | e3
    ·exact .inr (.inr (.inl e3))
    ·have:=e.2.1;omega
   ·exact .inr (.inr (.inr e2)))⟩)
 ·rcases e with e | e
  ·exact .inr (.inr (.inl e))
  ·exact .inl (.inl e)
 ·rcases e with e | e | e | e
  ·exact .inl (.inl e)
  ·exact .inl (.inr (.inl e))
  ·rcases Y9m hv e with e3 | e3
   ·exact .inl (.inr (.inr (.inl e3)))
   ·exact .inr (by omega)
  ·exact .inl (.inr (.inr (.inr e)))
theorem MkS.appM {x:MmE} (h:MkS w0 wx b gk gm ac th su V I F M P ifs fs ms) (hx:MmX wx (MkB w0 wx.heap.size gk gm V I F M) x) (ho:OwS memC 4 w3 w0.heap.size 43 M' (ms++[x])) (hg:wx.grownBy w3 M.ownBlock) (hv:M'.ownBlock=M.ownBlock∨M'.ownBlock=some wx.heap.size) :
  Bk w3 gk 57 ((mkA ac th su I F M gm).setIfInBounds 2 V)∧MkS w0 (w3.setCell ⟨gk,8,none⟩ M') wx.heap.size gk gm ac th su V I F M' P ifs fs (ms++[x])∧Fo wx (MkG gk gm V I F M) (w3.setCell ⟨gk,8,none⟩ M') (MkG gk gm V I F M'):=by
 have c1:Ch wx w3 (Fow M):=Ch.of_grown hg (fun k e=>e);have hm3:MkR w0 w3 gk gm (mkA ac th su I F M gm) V P:=h.mkr.step c1 (fun k e=>⟨(h.foot k (.inr (.inr (.inr e)))).1,(h.a3 k e).1⟩);have c2:Ch w3 (w3.setCell ⟨gk,8,none⟩ M') (fun k=>k=gk):=Y9i _ _ _ _;have c4:Ch wx (w3.setCell ⟨gk,8,none⟩ M') (fun k=>Fow M k∨k=gk):=(c1.mono (fun _ _ e => .inl e)).trans c2 (fun _ _ e => .inr e);have hl:=h.foot
 have n1:∀k,Fow M' k→¬Mkf gk gm V k∧¬Fow I k∧¬Fow F k:=fun k e=>by
  rcases Y9m hv e with e3 | e3
  ·exact h.a3 k e3
  ·exact⟨fun e2=>by have:=(hl k (.inl e2)).2;omega,fun e2=>by have:=(hl k (.inr (.inl e2))).2;omega,fun e2=>by have:=(hl k (.inr (.inr (.inl e2)))).2;omega⟩
 refine⟨hm3.box,⟨hm3.store mkA_m rfl rfl,h.i.ch c4 (fun k e e2=>by
  rcases e2 with e2 | e2
  ·exact(h.a3 k e2).2.1 e
  ·exact h.a1 k e (.inl e2)),h.f.cho c4 (fun k e e2=>by
  rcases e2 with e2 | e2
  ·exact(h.a3 k e2).2.2 e
  ·exact(h.a2 k e).1 (.inl e2)),ho.cho c2 (fun k e e2=>(n1 k e).1 (.inl e2)),fun y hy=>?_,c4.size,h.a1,h.a2,n1⟩,c4.mono (fun k _ e=>?_),fun k e=>?_⟩
 ·have h:=h.top
  have h0:MmX wx (MkB w0 wx.heap.size gk gm V I F M) y:=by
   rcases hy with e | e
   ·exact h.sub y (.inl e)
   ·rcases Z41.1 e with e | e
    ·exact h.sub y (.inr e)
    ·rcases Z23.1 e with e | e
     ·rw[e];exact hx
     ·cases e
  exact h0.step (fun k e=>c4.same k e.2.1 (fun e2=>e.2.2 (by
   rcases e2 with e2 | e2
   ·exact .inr (.inr (.inr e2))
   ·exact .inl (.inl e2)))) (fun k e=>⟨e.1,e.2.1,fun e2=>e.2.2 (by
   rcases e2 with e2 | e2 | e2 | e2
   ·exact .inl e2
   ·exact .inr (.inl e2)
   ·exact .inr (.inr (.inl e2))
   ·rcases Y9m hv e2 with e3 | e3
    ·exact .inr (.inr (.inr e3))
    ·have:=e.2.1;omega)⟩)
 ·rcases e with e | e
  ·exact .inr (.inr (.inr e))
  ·exact .inl (.inl e)
 ·rcases e with e | e | e | e
  ·exact .inl (.inl e)
  ·exact .inl (.inr (.inl e))
  ·exact .inl (.inr (.inr (.inl e)))
  ·rcases Y9m hv e with e3 | e3
   ·exact .inl (.inr (.inr (.inr e3)))
   ·exact .inr (by omega)
theorem MkS.c6 (h:MkS w0 wx b gk gm ac th su V I F M P ifs fs ms):wx.cell? ⟨gk,6,none⟩=some I:=by
 rw[h.mkr.box.cell 6,Z45 (by decide)];rfl
theorem MkS.c7 (h:MkS w0 wx b gk gm ac th su V I F M P ifs fs ms):wx.cell? ⟨gk,7,none⟩=some F:=by
 rw[h.mkr.box.cell 7,Z45 (by decide)];rfl
theorem MkS.c8 (h:MkS w0 wx b gk gm ac th su V I F M P ifs fs ms):wx.cell? ⟨gk,8,none⟩=some M:=by
 rw[h.mkr.box.cell 8,Z45 (by decide)];rfl
end
open Go.RowKit
set_option linter.unusedSimpArgs false
theorem X9j {α:Type} {fC:α→List Value} {sz:Nat} {w:World} {B n c:Nat} {e:TypeId} {A:Option Addr} {v:Value} {l:List α} (h:OwS fC sz w B e v l) (hv:v = .slice A n c):(c:Int)≤9223372036854775807:=by
 rcases h.2 with⟨e1,h0⟩ | ⟨g,cap,cur,e1,_,_,_,hm,_⟩
 ·rw[hv]at e1;injection e1 with _ _ e3;omega
 ·rw[hv]at e1;injection e1 with _ _ e3;unfold maxLen at hm;omega
structure KmR (w:World) (y:ImE):Prop where
 pool:RS cstC w w.heap.size y.pA y.pool
 pl:y.pool.length=y.pn∧y.pn≤y.pc∧(y.pc:Int)≤9223372036854775807
 ifs:RL iV w w.heap.size y.iA y.ifs
 il:y.ifs.length=y.i_n∧y.i_n≤y.ic∧(y.ic:Int)≤9223372036854775807
 as_:RA w w.heap.size y.aA y.as_
 al:y.as_.length=y.an∧y.an≤y.ac∧(y.ac:Int)≤9223372036854775807
 sub:∀z,z∈y.fs∨z∈y.ms→MmB w w.heap.size z
def KmU (g5:Nat) (y:ImE) (k:Nat):Prop:=k=g5∨Fow (.slice y.fA y.fn y.fc) k∨Fow (.slice y.mA y.mn y.mc) k
structure KmX (w wx:World) (g5:Nat) (y:ImE):Prop where
 bel:Below w.heap.size w wx
 b5:Bk wx g5 34 (imC y)
 f:OwS memC 4 wx w.heap.size 43 (.slice y.fA y.fn y.fc) y.fs
 m:OwS memC 4 wx w.heap.size 43 (.slice y.mA y.mn y.mc) y.ms
 r:∀w',Ch wx w' (KmU g5 y)→KmR w' y
 ap:∀k,Fow (.slice y.fA y.fn y.fc) k→¬Fow (.slice y.mA y.mn y.mc) k
 g:w.heap.size≤g5∧¬Fow (.slice y.fA y.fn y.fc) g5∧¬Fow (.slice y.mA y.mn y.mc) g5
section
variable {w wx w':World} {g5:Nat} {y y':ImE}
theorem KmX.foot (h:KmX w wx g5 y):∀k,KmU g5 y k→w.heap.size≤k∧k<wx.heap.size:=fun k e=>by
 rcases e with e | e | e
 ·rw[e];exact⟨h.g.1,h.b5.lt⟩
 ·exact h.f.blk e
 ·exact h.m.blk e
theorem KmX.rim (h:KmX w wx g5 y):RIm wx wx.heap.size y:=by
 obtain⟨uA,uc,hvf,hrf,hcf⟩:=OwS.rd h.f;obtain⟨vA,vc,hvm,hrm,hcm⟩:=OwS.rd h.m;have hof:=X9j h.f hvf;have hom:=X9j h.m hvm;injection hvf with f1 f2 f3
 injection hvm with m1 m2 m3
 have r:=h.r wx (Ch.refl wx);exact⟨r.pool,r.pl,r.ifs,r.il,⟨by rw[f1];exact hrf,fun z hz=>r.sub z (.inl hz)⟩,⟨f2.symm,by rw[f2,f3];exact hcf,by rw[f3];exact hof⟩,⟨by rw[m1];exact hrm,fun z hz=>r.sub z (.inr hz)⟩,⟨m2.symm,by rw[m2,m3];exact hcm,by rw[m3];exact hom⟩,r.as_,r.al⟩
theorem KmX.below (h:KmX w wx g5 y) (hb:Below wx.heap.size wx w'):KmX w w' g5 y:=
 ⟨h.bel.trans (hb.mono h.bel.size),h.b5.below hb h.b5.lt,h.f.step hb,h.m.step hb,fun w2 c=>h.r w2 ((Ch.of_below hb).trans c (fun _ _ e=>e)),h.ap,h.g⟩
theorem X3y {α:Type} {fC:α→List Value} {sz B:Nat} {e:TypeId} {A:Option Addr} {n c:Nat} {l:List α} (h:KmX w wx g5 y) (hB:wx.heap.size≤B) (hw:OwS fC sz w' B e (.slice A n c) l) {w2:World} (cc:Ch w' w2 (KmU g5 y)):RS fC w2 w2.heap.size A l∧l.length=n∧n≤c∧(c:Int)≤9223372036854775807:=by
 have h2:=hw.cho cc (fun k e1 e2=>by have:=(hw.blk e1).1;have:=(h.foot k e2).2;omega);obtain⟨a,d,hv,hr,hc⟩:=OwS.rd h2;have hk:=X9j h2 hv;injection hv with e1 e2 e3
 subst e1 e2 e3;exact⟨hr,rfl,hc,hk⟩
theorem KmX.box (h:KmX w wx g5 y) (i:Nat) (u:Value) (hc:imC y'=(imC y).setIfInBounds i u) (hU:y'.fs=y.fs∧y'.ms=y.ms∧y'.fA=y.fA∧y'.fn=y.fn∧y'.fc=y.fc∧y'.mA=y.mA∧y'.mn=y.mn∧y'.mc=y.mc) (hr:∀w',Ch wx w' (KmU g5 y)→KmR w' y'):KmX w (wx.setCell ⟨g5,i,none⟩ u) g5 y':=by
 obtain⟨e1,e2,e3,e4,e5,e6,e7,e8⟩:=hU;have hch:=Y9i wx g5 i u;have eU:KmU g5 y'=KmU g5 y:=by unfold KmU;rw[e3,e4,e5,e6,e7,e8]
 refine⟨h.bel.trans (hch.below h.bel.size (fun k hk e=>by have e:k=g5:=e;have:=h.g.1;omega)),by rw[hc];exact h.b5.set i u,?_,?_,?_,?_,?_⟩
 ·rw[e1,e3,e4,e5];exact h.f.set_other (p:=⟨g5,i,none⟩) h.g.2.1 u
 ·rw[e2,e6,e7,e8];exact h.m.set_other (p:=⟨g5,i,none⟩) h.g.2.2 u
 ·rw[eU];exact fun w2 c=>hr w2 ((hch.mono (fun k _ e => .inl e)).trans c (fun _ _ e=>e))
 ·rw[e3,e4,e5,e6,e7,e8];exact h.ap
 ·rw[e3,e4,e5,e6,e7,e8];exact h.g
theorem KmX.fld (h:KmX w wx g5 y) {gF j:Nat} {x x':MmE} {u:Value} (hA:y.fA=some ⟨gF,0,none⟩) (hx:y.fs[j]? = some x) (hu:memC x'=(memC x).set 3 u) (hr:∀w',Ch wx w' (KmU g5 y)→MmB w' w'.heap.size x'):KmX w (wx.setCell ⟨gF,j*4+3,none⟩ u) g5 { y with fs:=y.fs.set j x' }:=by
 have hch:=Y9i wx gF (j*4+3) u;have hF:Fow (.slice y.fA y.fn y.fc) gF:=by rw[hA];rfl
 have hlo:=(h.f.blk hF).1;refine⟨h.bel.trans (hch.below h.bel.size (fun k hk e=>by have e:k=gF:=e;omega)),h.b5.ch hch (fun e=>h.g.2.1 (by rw[show g5=gF from e];exact hF)),?_,h.m.set_other (p:=⟨gF,j*4+3,none⟩) (fun e=>h.ap gF hF e) u,fun w2 c=>?_,h.ap,h.g⟩
 ·have h2:=h.f
  show OwS memC 4 _ _ _ (.slice y.fA y.fn y.fc) (y.fs.set j x');rw[hA]at h2 ⊢;exact h2.set memCels hx (by decide) hu
 ·have c2:Ch wx w2 (KmU g5 y):=(hch.mono (fun k _ e => .inr (.inl (by rw[show k=gF from e];exact hF)))).trans c (fun _ _ e=>e)
  have r:=h.r w2 c2;refine⟨r.pool,r.pl,r.ifs,r.il,r.as_,r.al,fun z hz=>?_⟩;rcases hz with hz | hz
  ·rcases List.mem_or_eq_of_mem_set hz with hz | hz
   ·exact r.sub z (.inl hz)
   ·rw[hz];exact hr w2 c2
  ·exact r.sub z (.inr hz)
theorem KmX.mth (h:KmX w wx g5 y) {gF j:Nat} {x x':MmE} {u:Value} (hA:y.mA=some ⟨gF,0,none⟩) (hx:y.ms[j]? = some x) (hu:memC x'=(memC x).set 3 u) (hr:∀w',Ch wx w' (KmU g5 y)→MmB w' w'.heap.size x'):KmX w (wx.setCell ⟨gF,j*4+3,none⟩ u) g5 { y with ms:=y.ms.set j x' }:=by
 have hch:=Y9i wx gF (j*4+3) u;have hF:Fow (.slice y.mA y.mn y.mc) gF:=by rw[hA];rfl
 have hlo:=(h.m.blk hF).1;refine⟨h.bel.trans (hch.below h.bel.size (fun k hk e=>by have e:k=gF:=e;omega)),h.b5.ch hch (fun e=>h.g.2.2 (by rw[show g5=gF from e];exact hF)),h.f.set_other (p:=⟨gF,j*4+3,none⟩) (fun e=>h.ap gF e hF) u,?_,fun w2 c=>?_,h.ap,h.g⟩
 ·have h2:=h.m
  show OwS memC 4 _ _ _ (.slice y.mA y.mn y.mc) (y.ms.set j x');rw[hA]at h2 ⊢;exact h2.set memCels hx (by decide) hu
 ·have c2:Ch wx w2 (KmU g5 y):=(hch.mono (fun k _ e => .inr (.inr (by rw[show k=gF from e];exact hF)))).trans c (fun _ _ e=>e)
  have r:=h.r w2 c2;refine⟨r.pool,r.pl,r.ifs,r.il,r.as_,r.al,fun z hz=>?_⟩;rcases hz with hz | hz
  ·exact r.sub z (.inl hz)
  ·rcases List.mem_or_eq_of_mem_set hz with hz | hz
   ·exact r.sub z (.inr hz)
   ·rw[hz];exact hr w2 c2
theorem X1m {b gk gm:Nat} {ac:Int} {V:Value}
  (hS:MkS w wx b gk gm ac y.this y.super V (.slice y.iA y.i_n y.ic) (.slice y.fA y.fn y.fc) (.slice y.mA y.mn y.mc) y.pool y.ifs y.fs y.ms)
  (hV:V = .slice y.pA y.pn y.pc) (has:y.as_=[]) (haA:y.aA=none) (han:y.an=0) (hac:y.ac=0) (hg:wx.heap.size=g5):KmX w (wx.alloc (.cells (imC y) 34)) g5 y:=by
 have hb:=Y9z (Below.refl wx.heap.size wx) (Z00 _) (.cells (imC y) 34);have hnF:∀k,Fow (.slice y.fA y.fn y.fc) k→k<wx.heap.size:=fun k e=>(hS.f.blk e).2;have hnM:∀k,Fow (.slice y.mA y.mn y.mc) k→k<wx.heap.size:=fun k e=>(hS.m.blk e).2;refine⟨hS.mkr.bel.trans (hb.mono hS.mkr.bel.size),Bk.newAt wx _ _ hg,hS.f.step hb,hS.m.step hb,fun w2 c=>?_,fun k e e2=>(hS.a3 k e2).2.2 e,by have:=hS.mkr.bel.size;omega,fun e=>by have:=hnF _ e;omega,fun e=>by have:=hnM _ e;omega⟩;have c2:Ch wx w2 (KmU g5 y):=(Ch.of_below hb).trans c (fun _ _ e=>e)
 have hU:∀k,k<wx.heap.size→KmU g5 y k→Fow (.slice y.fA y.fn y.fc) k∨Fow (.slice y.mA y.mn y.mc) k:=fun k hk e=>by
  rcases e with e | e
  ·omega
  ·exact e
 have hp:=hS.mkr.own.cho c2 (fun k e e2=>by
  have hk:=(hS.mkr.own.blk e).2;rcases hU k hk e2 with e2 | e2
  ·exact(hS.a2 k e2).1 (.inr (.inr e))
  ·exact(hS.a3 k e2).1 (.inr (.inr e)))
 have hi:=hS.i.ch c2 (fun k e e2=>by
  have hk:=(World.ownsRow.lt hS.i k e).2;rcases hU k hk e2 with e2 | e2
  ·exact(hS.a2 k e2).2 e
  ·exact(hS.a3 k e2).2.1 e)
 obtain⟨pA,pc,hvp,hrp,hcp⟩:=OwS.rd hp;obtain⟨eA,ec,hvi,hri,hci,hmi⟩:=OwL.rd hi;have hop:=X9j hp hvp;rw[hV]at hvp;injection hvp with p1 p2 p3
 injection hvi with i1 i2 i3
 refine⟨by rw[p1];exact hrp,⟨p2.symm,by rw[p2,p3];exact hcp,by rw[p3];exact hop⟩,by rw[i1];exact hri,⟨i2.symm,by rw[i2,i3];exact hci,by rw[i3];exact hmi⟩,by rw[has,haA];exact RA.nil,by rw[has,han,hac];exact⟨rfl,Z00 _,by decide⟩,fun z hz=>?_⟩;have hz2:=hS.sub z hz
 have hz3:=hz2.step (w':=w2) (Y:=fun k=>k<w2.heap.size) (fun k e=>c2.same k (Z07 e.2.1 hS.bb) (fun e2=>by
  have hk:=Z07 e.2.1 hS.bb;rcases hU k hk e2 with e2 | e2
  ·exact e.2.2 (.inr (.inr (.inl e2)))
  ·exact e.2.2 (.inr (.inr (.inr e2))))) (fun k e=>Z07 (Z07 e.2.1 hS.bb) c2.size)
 exact hz3.mmB (fun _ e=>e)
end
theorem OwS.lit2 {α:Type} {fC:α→List Value} {sz base:Nat} {e:TypeId} (hC:Cels fC sz) (w:World) (x y:α) (cs:Array Value) (h:cs.toList=fC x++fC y) (hB:base≤w.heap.size):OwS fC sz (w.alloc (.cells cs e)) base e (.slice (some ⟨w.heap.size,0,none⟩) 2 2) [x,y]:=by
 have hl:cs.size=2*sz:=by rw[←Array.length_toList,h,Z09,hC.len,hC.len];omega
 refine⟨by simp [hC.len];omega,.inr ⟨w.heap.size,2,cs,rfl,hB,heap_alloc_new w _,Z00 _,by unfold maxLen;decide,by omega,?_⟩⟩;show cs.toList.take _=_;rw[Z15 (by rw[Array.length_toList];simp;omega),h]
 simp
theorem X3t {α:Type} (T:α→α) {l:List α} {j:Nat} {x:α} (hx:l[j]? = some x):((l.take j).map T++l.drop j).set j (T x)=(l.take (j+1)).map T++l.drop (j+1):=by
 have hj:=(Z24.1 hx).1;have hd:l.drop j=x::l.drop (j+1):=(by rw[Z42 hj,(Z24.1 hx).2]);rw[hd,List.set_append_right _ _ (by simp;omega),Z40,hx];simp [Z29,Nat.min_eq_left (Z12 hj)]
theorem W8b {α:Type} (T:α→α) {l:List α} {j:Nat} {x:α} (hj:j<l.length) (hx:((l.take j).map T++l.drop j)[j]? = some x):l[j]? = some x:=by
 rw[List.getElem?_append_right (by simp;omega)]at hx;simp only[Z17,Z29,Nat.min_eq_left (Z12 hj),Nat.sub_self,List.getElem?_drop,Nat.add_zero]at hx;exact hx
section
variable {w wd Y:World} {g5 g7:Nat} {y:ImE} {T:Mem→Mem} {cs:Array Value} {j:Nat}
theorem KmX.belc (h:KmX w wd g5 y) {w2:World} (c:Ch wd w2 (KmU g5 y)):Below w.heap.size w w2:=
 h.bel.trans (c.below h.bel.size (fun k hk e=>by have:=(h.foot k e).1;omega))
theorem W9a (h:KmX w wd g5 y) (hb:Below wd.heap.size wd Y) {z:MmE} (hz:z∈y.fs∨z∈y.ms) {A:Option Addr} {n c:Nat} {L1 L2:List AtE} (hO:OwS attC 2 Y wd.heap.size 41 (.slice A n c) (L1++z.L++L2))
  (hd:∀a,a∈L1∨a∈L2→∀w',Below w.heap.size w w'→SlB w' w'.heap.size a.s):∀w',Ch Y w' (KmU g5 y)→MmB w' w'.heap.size { z with A:=A,n:=n,c:=c,L:=L1++z.L++L2 }:=fun w' cc=>by
 obtain⟨h1,h2,h3,h4⟩:=X3y h (Z00 _) hO cc;have cd:Ch wd w' (KmU g5 y):=(Ch.of_below hb).trans cc (fun _ _ e=>e);refine⟨h2,h3,h4,h1,fun a ha=>?_⟩;rcases Z41.1 ha with ha | ha
 ·rcases Z41.1 ha with ha | ha
  ·exact hd a (.inl ha) w' (h.belc cd)
  ·exact((h.r w' cd).sub z hz).2.2.2.2 a ha
 ·exact hd a (.inr ha) w' (h.belc cd)
structure KmF (w wx:World) (g5 g7:Nat) (y:ImE) (T:Mem→Mem) (cs:Array Value) (j:Nat) (fs:List MmE):Prop where
 x:KmX w wx g5 { y with fs:=fs }
 p:fs.map MmE.p=((y.fs.map MmE.p).take j).map T++(y.fs.map MmE.p).drop j
 l:∀i z,j≤i→fs[i]? = some z→z.L.length≤1
 b:Bk wx g7 41 cs
 n:¬KmU g5 y g7
structure KmG (w wx:World) (g5 g7:Nat) (y:ImE) (T:Mem→Mem) (cs:Array Value) (j:Nat) (ms:List MmE):Prop where
 x:KmX w wx g5 { y with ms:=ms }
 p:ms.map MmE.p=((y.ms.map MmE.p).take j).map T++(y.ms.map MmE.p).drop j
 l:∀i z,j≤i→ms[i]? = some z→z.L.length≤1
 b:Bk wx g7 41 cs
 n:¬KmU g5 y g7
theorem KmF.len {fs:List MmE} (h:KmF w wd g5 g7 y T cs j fs):fs.length=y.fs.length:=by
 have:=congrArg List.length h.p
 simp only[Z17,Z09,Z29,List.length_drop]at this;omega
theorem KmG.len {ms:List MmE} (h:KmG w wd g5 g7 y T cs j ms):ms.length=y.ms.length:=by
 have:=congrArg List.length h.p
 simp only[Z17,Z09,Z29,List.length_drop]at this;omega
theorem W9k {l0 l:List MmE} {z z':MmE} (hp:l.map MmE.p=((l0.map MmE.p).take j).map T++(l0.map MmE.p).drop j) (hx:l[j]? = some z) (hT:T z.p=z'.p):(l.set j z').map MmE.p=((l0.map MmE.p).take (j+1)).map T++(l0.map MmE.p).drop (j+1):=by
 have hj:=(Z24.1 hx).1;have hl:=congrArg List.length hp;simp only[Z17,Z09,Z29,List.length_drop]at hl;have hx2:(l.map MmE.p)[j]? = some z.p:=by rw[List.getElem?_map,hx];rfl
 rw[hp]at hx2;have h0:=W8b T (by rw[Z17];omega) hx2;rw[List.map_set,hp,←hT,X3t T h0]
theorem KmF.next {fs:List MmE} (h:KmF w wd g5 g7 y T cs j fs) (hb:Below wd.heap.size wd Y) {gF:Nat} {z:MmE} (hA:y.fA=some ⟨gF,0,none⟩) (hx:fs[j]? = some z) {A:Option Addr} {n c:Nat} {L1 L2:List AtE} (hO:OwS attC 2 Y wd.heap.size 41 (.slice A n c) (L1++z.L++L2))
  (hd:∀a,a∈L1∨a∈L2→∀w',Below w.heap.size w w'→SlB w' w'.heap.size a.s) (hT:T z.p=MmE.p { z with A:=A,n:=n,c:=c,L:=L1++z.L++L2 }) :
  KmF w (Y.setCell ⟨gF,j*4+3,none⟩ (.slice A n c)) g5 g7 y T cs (j+1) (fs.set j { z with A:=A,n:=n,c:=c,L:=L1++z.L++L2 }):=by
 have hxx:=(h.x.below hb).fld (x':={ z with A:=A,n:=n,c:=c,L:=L1++z.L++L2 }) (u := .slice A n c) hA hx rfl (W9a h.x hb (.inl (Z16 hx)) hO hd);refine⟨hxx,W9k h.p hx hT,fun i q hi hq=>?_,(h.b.below hb h.b.lt).far (p:=⟨gF,j*4+3,none⟩) (fun e=>h.n (.inr (.inl (by rw[hA];exact congrArg some e.symm)))) _,h.n⟩;rw[List.getElem?_set_ne (by omega)]at hq;exact h.l i q (by omega) hq
theorem KmG.next {ms:List MmE} (h:KmG w wd g5 g7 y T cs j ms) (hb:Below wd.heap.size wd Y) {gF:Nat} {z:MmE} (hA:y.mA=some ⟨gF,0,none⟩) (hx:ms[j]? = some z) {A:Option Addr} {n c:Nat} {L1 L2:List AtE} (hO:OwS attC 2 Y wd.heap.size 41 (.slice A n c) (L1++z.L++L2))
  (hd:∀a,a∈L1∨a∈L2→∀w',Below w.heap.size w w'→SlB w' w'.heap.size a.s) (hT:T z.p=MmE.p { z with A:=A,n:=n,c:=c,L:=L1++z.L++L2 }) :
  KmG w (Y.setCell ⟨gF,j*4+3,none⟩ (.slice A n c)) g5 g7 y T cs (j+1) (ms.set j { z with A:=A,n:=n,c:=c,L:=L1++z.L++L2 }):=by
 have hxx:=(h.x.below hb).mth (x':={ z with A:=A,n:=n,c:=c,L:=L1++z.L++L2 }) (u := .slice A n c) hA hx rfl (W9a h.x hb (.inr (Z16 hx)) hO hd);refine⟨hxx,W9k h.p hx hT,fun i q hi hq=>?_,(h.b.below hb h.b.lt).far (p:=⟨gF,j*4+3,none⟩) (fun e=>h.n (.inr (.inr (by rw[hA];exact congrArg some e.symm)))) _,h.n⟩;rw[List.getElem?_set_ne (by omega)]at hq;exact h.l i q (by omega) hq
theorem KmF.below {fs:List MmE} (h:KmF w wd g5 g7 y T cs j fs) (hb:Below wd.heap.size wd Y):KmF w Y g5 g7 y T cs j fs:=⟨h.x.below hb,h.p,h.l,h.b.below hb h.b.lt,h.n⟩
theorem KmG.below {ms:List MmE} (h:KmG w wd g5 g7 y T cs j ms) (hb:Below wd.heap.size wd Y):KmG w Y g5 g7 y T cs j ms:=⟨h.x.below hb,h.p,h.l,h.b.below hb h.b.lt,h.n⟩
end
end Go.Proofs.YtpmfiegfbmamiaaDoor
