/- Contract of klass's view: constants. -/
import Derived.Test.YtpmfiegfbmamiaaDoorPm8
namespace Go.Proofs.YtpmfiegfbmamiaaDoor
set_option maxRecDepth 100000
set_option maxHeartbeats 8000000
open Go.RowKit
set_option linter.unusedSimpArgs false
theorem W8p:(Tryd.prog.info? 39).map (·.size)=some 5:=by kernel_rfl
theorem W5z (a b c d:Int) (t:List UInt8):(#[.int .i64 a,.int .i64 b,.int .i64 c,.int .i64 d,.string ⟨t.toArray⟩]:Array Value).all (·.oneCell')=true:=by simp [Value.oneCell']
theorem Vw.cells {w:World} {gv:Nat} {x:ImE} {b:Bool} {ad:Addr} {k:Nat} {p:Cst} (h:Vw w gv x b) (hA:x.pA=some ad) (hp:x.pool[k]? = some p):ad.block<gv∧w.cell? (ad.add (k*5))=some (.int .i64 p.tag)∧w.cell? ⟨(ad.add (k*5)).block,(ad.add (k*5)).off+1,none⟩=some (.int .i64 p.a)∧w.cell? ⟨(ad.add (k*5)).block,(ad.add (k*5)).off+2,none⟩=some (.int .i64 p.b)∧w.cell? ⟨(ad.add (k*5)).block,(ad.add (k*5)).off+3,none⟩=some (.int .i64 p.num)∧w.cell? ⟨(ad.add (k*5)).block,(ad.add (k*5)).off+4,none⟩=some (.string ⟨p.text.toArray⟩):=by
 obtain⟨hk,e⟩:=Z24.1 hp;obtain⟨ad2,p2,hA2,hab,hpx,c0,cj⟩:=h.im.pool.at_ cstCels (k:=k) hk;rw[hA]at hA2;injection hA2 with hA2
 subst hA2;have hpp:=hpx.out;rw[hp]at hpp;injection hpp with hpp
 subst hpp;exact⟨hab,c0 _ rfl,cj 0 _ rfl,cj 1 _ rfl,cj 2 _ rfl,cj 3 _ rfl⟩
def CnsP (c:Bool) (w:World) (e:Ending) (w':World):Prop:=e=(if c=true then .returned (.tuple #[]) else .panicked brkC)∧Below w.heap.size w w'
section
variable {pool:List Cst} {c p:Cst} {s n d r:List UInt8} {ps:List (List UInt8)}
theorem W5m (ht:c.tag=7) (h:txtK pool c.a=none):cnsK pool c=false:=by
 unfold cnsK;rw[if_pos ht,h]
theorem cns_a (ht:c.tag=7) (h:txtK pool c.a=some s):cnsK pool c=(classOk s||(decide (s.head? = some 91)&&descB s)):=by
 unfold cnsK;rw[if_pos ht,h]
theorem cns_o (h7:c.tag≠7) (h:¬(c.tag=9∨c.tag=10∨c.tag=11)):cnsK pool c=true:=by
 unfold cnsK;rw[if_neg h7,if_neg h]
def cnR (pool:List Cst) (c p:Cst):Bool:=match txtK pool p.a,txtK pool p.b with
 | some n,some d=>if c.tag=9 then memberB n false&&descB d else (match methB d with
  | some (_,r)=>memberB n true&&decide (n≠clinitL)&&(decide (n≠initL)||(decide (c.tag=10)&&decide (r=[86])))
  | none=>false)
 | _,_=>false
theorem W5v (h7:c.tag≠7) (h:c.tag=9∨c.tag=10∨c.tag=11) (hp:plainK pool c.a=none):cnsK pool c=false:=by
 unfold cnsK;rw[if_neg h7,if_pos h,hp]
 rfl
theorem cns_b (h7:c.tag≠7) (h:c.tag=9∨c.tag=10∨c.tag=11) (hp:plainK pool c.a=some s) (hq:pool[c.b.toNat]? = some p):cnsK pool c=cnR pool c p:=by
 unfold cnsK;rw[if_neg h7,if_pos h,hp,hq]
 rfl
theorem cnR_1 (h:txtK pool p.a=none):cnR pool c p=false:=by
 unfold cnR;rw[h]
theorem cnR_2 (h:txtK pool p.a=some n) (h2:txtK pool p.b=none):cnR pool c p=false:=by
 unfold cnR;rw[h,h2]
theorem cnR_3 (h:txtK pool p.a=some n) (h2:txtK pool p.b=some d) (ht:c.tag=9):cnR pool c p=(memberB n false&&descB d):=by
 unfold cnR;rw[h,h2];dsimp only;rw[if_pos ht]
theorem cnR_4 (h:txtK pool p.a=some n) (h2:txtK pool p.b=some d) (ht:c.tag≠9) (hm:methB d=none):cnR pool c p=false:=by
 unfold cnR;rw[h,h2];dsimp only;rw[if_neg ht,hm]
theorem cnR_5 (h:txtK pool p.a=some n) (h2:txtK pool p.b=some d) (ht:c.tag≠9) (hm:methB d=some (ps,r)):cnR pool c p=(memberB n true&&decide (n≠clinitL)&&(decide (n≠initL)||(decide (c.tag=10)&&decide (r=[86])))):=by
 unfold cnR;rw[h,h2];dsimp only;rw[if_neg ht,hm]
end
theorem Y4r (x:ImE) (b:Bool) (gv:Nat) (w:World) (hv:Vw w gv x b) (hn:x.pn≤100000000) (hb:∀c∈x.pool,c.tag=9∨c.tag=10∨c.tag=11→0≤c.b∧c.b<x.pool.length) :
  Calls Tryd.prog 37 #[.pointer (some ⟨gv,0,none⟩)] w (CnsP (poolK x.p.pool) w):=by
 obtain⟨R,hR⟩:∃R,poolK x.p.pool=R:=⟨_,rfl⟩;rw[hR];have HR:=bx hR;have HV:=bx hv;have HB:=bx hb;have Qg:Bx (x.pool.length=x.pn):=bx hv.im.pl.1;have hgv:=hv.lt;have c2:w.cell? ⟨gv,2,none⟩=some (.slice x.pA x.pn x.pc):=(hv.box.cell 2).trans rfl;obtain⟨pA,hpA⟩:∃pA,x.pA=pA:=⟨_,rfl⟩;obtain⟨pn,hpn⟩:∃pn,x.pn=pn:=⟨_,rfl⟩;obtain⟨pc,hpc⟩:∃pc,x.pc=pc:=⟨_,rfl⟩;rw[hpA,hpn,hpc]at c2;rw[hpn]at hn Qg;have Rc:=bx hpA;have Jd:Bx (x.pA=pA∧x.pn=pn∧x.pc=pc):=bx ⟨hpA,hpn,hpc⟩;clear hv hR hb hpA hpn hpc
 go_enter Tryd.func37,Tryd.ntmps37
 go_wp2_with fail
 go_loopw [17] (fun iv wx=>∃i:Nat,i≤pn∧iv = .int .i64 (i:Int)∧Bx (Below w.heap.size w wx∧(x.p.pool.take i).all (cnsK x.p.pool)=true)) (fun iv _=>pn-(intOf iv).toNat)
 case atStart=>exact⟨0,by omega,rfl,bx ⟨Below.refl _ _,rfl⟩⟩
 case round=>
  obtain⟨i,hi,rfl,Zs⟩:=hrel;clear c2;by_cases hin:i<pn
  ·have hiI:(i:Int)<(pn:Int):=by omega
   have hvw:=HV.out.below Zs.out.1;obtain⟨ad,c,hA,hab,hcx,c0,cj⟩:=hvw.im.pool.at_ cstCels (k:=i) (by rw[Qg.out];exact hin);rw[Rc.out]at hA;subst hA;have Zh:=bx hcx.out;have d0:=c0 _ rfl;have d1:=cj 0 _ rfl;have d2:=cj 1 _ rfl;have d3:=cj 2 _ rfl;have d4:=cj 3 _ rfl;simp only[Z22,Nat.reduceAdd]at d1 d2 d3 d4;have Kj:=bx hvw;clear hcx c0 cj hvw;have Ve:Bx (c∈x.pool):=bx (Z16 Zh.out);have Q3:=bx Zs.out.1
   go_upto_block 1 with(fail)
   go_cut [3,4,5,6,7,8,9,10] from 19 to 108 (fun _ _ _ _ _ _ _ _ wx=>Bx (Below w.heap.size w wx∧cnsK x.p.pool c=true))
   case first=>
    have hstop:∀wq,cnsK x.p.pool c=false→Below w.heap.size w wq→CnsP R w (.panicked brkC) wq:=fun wq h hq=>by
     have hX:R=false:=by rw[←HR.out];unfold poolK;rw[List.all_eq_false];exact⟨c,Ve.out,by rw[h];decide⟩
     rw[hX];exact⟨rfl,hq⟩
    have Zw:=bx hstop;clear hstop Zs HR;go_upto_region 3 with(fail)
    have hb1:=Y9z (Below.refl wr.heap.size wr) (Z00 _) (.cells #[.int .i64 c.tag,.int .i64 c.a,.int .i64 c.b,.int .i64 c.num,.string ⟨c.text.toArray⟩] 39);have hbk:=Bk.new wr 39 #[.int .i64 c.tag,.int .i64 c.a,.int .i64 c.b,.int .i64 c.num,.string ⟨c.text.toArray⟩];obtain⟨w2,hw2⟩:∃w2,wr.alloc (.cells #[.int .i64 c.tag,.int .i64 c.a,.int .i64 c.b,.int .i64 c.num,.string ⟨c.text.toArray⟩] 39)=w2:=⟨_,rfl⟩;obtain⟨g,hg⟩:∃g,wr.heap.size=g:=⟨_,rfl⟩;rw[hw2,hg]at hbk;rw[hw2]at hb1;rw[hw2,hg];have Wm:=bx (Q3.out.trans (hb1.mono Q3.out.size));have Zj:=bx hbk;clear hw2 hg hb1 hbk Q3 Kj d0 d1 d2 d3 d4;have c0:w2.cell? ⟨g,0,none⟩=some (.int .i64 c.tag):=(Zj.out.cell 0).trans rfl;have c1:w2.cell? ⟨g,1,none⟩=some (.int .i64 c.a):=(Zj.out.cell 1).trans rfl;have hg2:=Zj.out.lt;by_cases h7:c.tag=7
    ·have h7b:(c.tag==7)=true:=by simpa using h7
     have H7:=bx h7;clear h7;go_wp2_with fail
     refine Y9f (x:=x) (b:=b) c.a (HV.out.below Wm.out) ?_ ?_
     ·intro h w3 hb3
      have HX:=bx (Zw.out w3 (W5m H7.out h) (Wm.out.trans (hb3.mono Wm.out.size)));go_wp2;exact⟨rfl,HX.out⟩
     intro s hs w3 hb3;have Sa:Bx (cnsK x.p.pool c=(classOk s||(decide (s.head? = some 91)&&descB s))):=bx (cns_a H7.out hs);have Vy:Bx (s.length≤2000000):=bx (txt_len HV.out.txt hs);have Xv:=bx (Wm.out.trans (hb3.mono Wm.out.size));clear hs hb3 Wm Zj c0 c1 hg2;go_wp2_with fail
     refine X5f (x:=x) (b:=b) s (HV.out.below Xv.out) Vy.out ?_;intro w4 hb4;have Yj:=bx (Xv.out.trans (hb4.mono Xv.out.size));obtain⟨qk,hqk⟩:∃qk,classOk s=qk:=⟨_,rfl⟩;rw[hqk]at Sa ⊢;clear hqk hb4;cases qk with
     | true=>
      go_wp2_with fail
      refine Y9w _ (fun e=>by cases e) (fun _=>?_);go_wp2
      go_meet
      exact bx ⟨Yj.out,Sa.out⟩
     | false=>
     cases s with
     | nil=>
      go_wp2_with fail
      refine Y9w _ (fun _=>?_) (fun e=>by cases e);go_wp2;exact⟨rfl,Zw.out _ Sa.out Yj.out⟩
     | cons ch t=>
      have Ki:Bx (cnsK x.p.pool c=(decide (ch=91)&&descB (ch::t))):=bx (by rw[Sa.out,Bool.false_or];congr 1;simp);clear Sa;go_wp2_with fail
      case isTrue=>
       rename _=(91:Int)=>h
       have Nv:Bx (ch=91):=bx (by have h1:(ch.toNat:Int)=91:=h;exact UInt8.toNat_inj.1 (by show ch.toNat=91;omega));clear h;refine Y3h (x:=x) (b:=b) (ch::t) (HV.out.below Yj.out) Vy.out ?_;intro w5 hb5;have Za:=bx (Yj.out.trans (hb5.mono Yj.out.size));obtain⟨qd,hqd⟩:∃qd,descB (ch::t)=qd:=⟨_,rfl⟩;rw[hqd]at Ki ⊢;clear hqd hb5;cases qd with
       | false=>
        go_wp2_with fail
        refine Y9w _ (fun _=>?_) (fun e=>by cases e);go_wp2;exact⟨rfl,Zw.out _ (by rw[Ki.out,Bool.and_false]) Za.out⟩
       | true=>
        go_wp2_with fail
        refine Y9w _ (fun e=>by cases e) (fun _=>?_);go_wp2
        go_meet
        exact bx ⟨Za.out,by rw[Ki.out,Z47 Nv.out];rfl⟩
      rename ¬_=(91:Int)=>h
      have Nv:Bx (ch≠91):=bx (fun e=>h (by rw[e];rfl));clear h;refine Y9w _ (fun _=>?_) (fun e=>by cases e);go_wp2;exact⟨rfl,Zw.out _ (by rw[Ki.out,Z48 Nv.out];rfl) Yj.out⟩
    ·have h7b:(c.tag==7)=false:=by simpa using h7
     have H7:=bx h7;clear h7
     go_upto_if 23 with(fail)
     by_cases ht:c.tag=9∨c.tag=10∨c.tag=11
     case neg=>
      have h9b:(c.tag==9)=false:=by simp;omega
      have h10b:(c.tag==10)=false:=by simp;omega
      have h11b:(c.tag==11)=false:=by simp;omega
      have HT:=bx ht;clear ht;go_wp2_with fail
      go_meet
      exact bx ⟨Wm.out,cns_o H7.out HT.out⟩
     case pos=>
     obtain⟨hcb0,hcb1⟩:=HB.out c Ve.out ht;have HT:=bx ht;clear ht
     go_upto_if 45 with(fail)
     go_cut [45] from 46 to 48 (fun v wx=>wx=w2∧v = .bool true)
     case first=>
      have ht:=HT.out;by_cases h9:c.tag=9
      ·have h9b:(c.tag==9)=true:=by simpa using h9
       clear ht h9;go_wp2_with fail
       go_meet
       exact⟨rfl,by rw[h9b]⟩
      ·have h9b:(c.tag==9)=false:=by simpa using h9
       by_cases h10:c.tag=10
       ·have h10b:(c.tag==10)=true:=by simpa using h10
        clear ht h9 h10;go_wp2_with fail
        go_meet
        exact⟨rfl,rfl⟩
       ·have h10b:(c.tag==10)=false:=by simpa using h10
        have h11b:(c.tag==11)=true:=by simp;omega
        clear ht h9 h10;go_wp2_with fail
        go_meet
        exact⟨rfl,rfl⟩
     case rest=>
     obtain⟨hw,rfl⟩:=hcut;subst hw
     rename World=>w2
     have hn2:c.b.toNat<x.pool.length:=(by omega);obtain⟨cb,hcbn⟩:∃cb:Nat,c.b.toNat=cb:=⟨_,rfl⟩;have hcbI:c.b=(cb:Int):=(by omega);rw[hcbn]at hn2;have Jc:=bx hcbn;obtain⟨p,hp⟩:∃p,x.pool[cb]? = some p:=⟨_,Z33 hn2⟩;have Jb:=bx hp;have hcbp:cb<pn:=by rw[←Qg.out];exact hn2
     clear hp hn2 hcbn hcb0 hcb1;have c2:w2.cell? ⟨g,2,none⟩=some (.int .i64 (cb:Int)):=by rw[←hcbI];exact(Zj.out.cell 2).trans rfl
     have F5:=bx hcbI;clear hcbI;go_step;go_wp2_with fail
     refine Y8m (x:=x) (b:=b) c.a (HV.out.below Wm.out) ?_ ?_
     ·intro h w3 hb3
      have HX:=bx (Zw.out w3 (W5v H7.out HT.out h) (Wm.out.trans (hb3.mono Wm.out.size)));go_wp2;exact⟨rfl,HX.out⟩
     intro s hs w3 hb3;have Sa:Bx (cnsK x.p.pool c=cnR x.p.pool c p):=bx (cns_b H7.out HT.out hs (by rw[Jc.out];exact Jb.out));have Xv:=bx (Wm.out.trans (hb3.mono Wm.out.size));have Zo:=bx (Zj.out.below hb3 Zj.out.lt);clear hs hb3 Wm Zj c0 c1 c2 hg2;have Q2:Bx (∀wq,Below w.heap.size w wq→Bk wq g 39 #[.int .i64 c.tag,.int .i64 c.a,.int .i64 c.b,.int .i64 c.num,.string ⟨c.text.toArray⟩]→wq.cell? ⟨gv,2,none⟩=some (.slice (some ad) pn pc)∧wq.cell? ⟨g,2,none⟩=some (.int .i64 (cb:Int))∧wq.cell? (ad.add (cb*5))=some (.int .i64 p.tag)∧wq.cell? ⟨(ad.add (cb*5)).block,(ad.add (cb*5)).off+1,none⟩=some (.int .i64 p.a)∧wq.cell? ⟨(ad.add (cb*5)).block,(ad.add (cb*5)).off+2,none⟩=some (.int .i64 p.b)∧wq.cell? ⟨(ad.add (cb*5)).block,(ad.add (cb*5)).off+3,none⟩=some (.int .i64 p.num)∧wq.cell? ⟨(ad.add (cb*5)).block,(ad.add (cb*5)).off+4,none⟩=some (.string ⟨p.text.toArray⟩)):=bx (fun wq hq hk=>by have hvw:=HV.out.below hq;obtain⟨_,q0,q1,q2,q3,q4⟩:=hvw.cells Jd.out.1 Jb.out;exact⟨by rw[←Jd.out.1,←Jd.out.2.1,←Jd.out.2.2];exact(hvw.box.cell 2).trans rfl,by rw[←F5.out];exact(hk.cell 2).trans rfl,q0,q1,q2,q3,q4⟩);have hvw:=HV.out.below Xv.out;obtain⟨hab,p0,p1,p2,p3,p4⟩:=hvw.cells Jd.out.1 Jb.out;have hcbI:(cb:Int)<(pn:Int):=(by omega);have s1:w3.drew.cell? ⟨gv,2,none⟩=some (.slice (some ad) pn pc):=by rw[←Jd.out.1,←Jd.out.2.1,←Jd.out.2.2];exact(hvw.box.cell 2).trans rfl
     have s2:w3.drew.cell? ⟨g,2,none⟩=some (.int .i64 (cb:Int)):=by rw[←F5.out];exact(Zo.out.cell 2).trans rfl
     have hg3:=Zo.out.lt;have hgv3:=hvw.lt;clear hvw;go_wp2_with fail
     refine Y9x (S:=fun w'=>w'.cell? ⟨gv,2,none⟩=some (.slice (some ad) pn pc)∧w'.cell? ⟨g,2,none⟩=some (.int .i64 (cb:Int))∧w'.cell? (ad.add (cb*5))=some (.int .i64 p.tag)∧w'.cell? ⟨(ad.add (cb*5)).block,(ad.add (cb*5)).off+1,none⟩=some (.int .i64 p.a)∧w'.cell? ⟨(ad.add (cb*5)).block,(ad.add (cb*5)).off+2,none⟩=some (.int .i64 p.b)∧w'.cell? ⟨(ad.add (cb*5)).block,(ad.add (cb*5)).off+3,none⟩=some (.int .i64 p.num)∧w'.cell? ⟨(ad.add (cb*5)).block,(ad.add (cb*5)).off+4,none⟩=some (.string ⟨p.text.toArray⟩)) (.tk 0 (.tk 1 (.tk 2 (.tk 3 (.tk 4 (.tk 5 (.tk 6 (.tk 7 (.tk 8 (.rn 9 (.rn 10 .fin))))))))))) (by kernel_rfl) (by kernel_rfl) (by kernel_rfl) (fun _ _ _ _ h=>h) ⟨s1,s2,p0,p1,p2,p3,p4⟩ ?_;have Yj:Bx (Below w.heap.size w w3.drew):=bx (below_drewN Xv.out 1);have Zk:Bx (Bk w3.drew g 39 #[.int .i64 c.tag,.int .i64 c.a,.int .i64 c.b,.int .i64 c.num,.string ⟨c.text.toArray⟩]):=bx (Zo.out.drewN 1);generalize w3.drew=w4 at Yj Zk s1 s2 ⊢;clear Xv Zo p0 p1 p2 p3 p4 hg3 hgv3
     iterate 9 (apply SeqW.take;(· rfl);(· (refine Or.inl ⟨?_,?_⟩;(· rfl);(· (intro w hSw;(try dsimp only at hSw);go_simp <;> with_reducible rfl))));simp only[Act.put,Z01,Z02,Z03,Z06,Z04,Z05])
     refine SeqW.run rfl (fun K hK hP=>?_);go_wp2_with fail
     have hb5:=Y9z (Below.refl w4.heap.size w4) (Z00 _) (.cells #[.int .i64 0,.int .i64 0,.int .i64 0,.int .i64 0,.string ⟨#[]⟩] 39);have Nu:=Bk.new w4 39 #[.int .i64 0,.int .i64 0,.int .i64 0,.int .i64 0,.string ⟨#[]⟩];have Za:=Yj.out.trans (hb5.mono Yj.out.size);have Zm:=Zk.out.below hb5 Zk.out.lt;have hgg:=Zk.out.lt;have hwz:=Yj.out.size;obtain⟨w5,hw5⟩:∃w5,w4.alloc (.cells #[.int .i64 0,.int .i64 0,.int .i64 0,.int .i64 0,.string ⟨#[]⟩] 39)=w5:=⟨_,rfl⟩;obtain⟨gp,hgp⟩:∃gp,w4.heap.size=gp:=⟨_,rfl⟩;rw[hw5]at Nu Za Zm;rw[hgp]at Nu hgg hwz;rw[hw5,hgp];refine hK.out _ _ (Q2.out _ Za Zm) ?_;have F4:Bx (g<gp∧w.heap.size≤gp):=bx ⟨hgg,hwz⟩;have Za:=bx Za;have Zm:=bx Zm;have Nu:=bx Nu;clear hK hP K hw5 hgp hgg hwz hb5 Yj Zk s1 s2;refine SeqW.run rfl (fun K hK hP=>?_);refine wpList_store_row rfl 39 (.tmp 5) (.tmp 61) rfl gp #[.int .i64 p.tag,.int .i64 p.a,.int .i64 p.b,.int .i64 p.num,.string ⟨p.text.toArray⟩] rfl rfl 39 #[.int .i64 0,.int .i64 0,.int .i64 0,.int .i64 0,.string ⟨#[]⟩] Nu.out W8p rfl (W5z _ _ _ _ _) ?_;refine wpList_nil ?_;have hch:=Y9t w5 gp #[.int .i64 p.tag,.int .i64 p.a,.int .i64 p.b,.int .i64 p.num,.string ⟨p.text.toArray⟩];have Yl:=Za.out.trans (hch.below Za.out.size (fun k hk e=>by have e:k=gp:=e;have:=F4.out;omega));have Zf:=Zm.out.ch hch (fun e=>by have e:g=gp:=e;have:=F4.out;omega);have Mk:=Nu.out.setRow #[.int .i64 p.tag,.int .i64 p.a,.int .i64 p.b,.int .i64 p.num,.string ⟨p.text.toArray⟩];refine hK.out _ _ (Q2.out _ Yl Zf) ?_;clear hK hP K hch;obtain⟨w6,hw6⟩:∃w6,w5.setRow gp #[.int .i64 p.tag,.int .i64 p.a,.int .i64 p.b,.int .i64 p.num,.string ⟨p.text.toArray⟩]=w6:=⟨_,rfl⟩;rw[hw6]at Yl Zf Mk;rw[hw6];have Yl:=bx Yl;have Zf:=bx Zf;have Mk:=bx Mk;clear hw6 Za Zm Nu Q2;refine SeqW.done ?_;simp only[Act.put,Z01,Z02,Z03];have s1:w6.drew.cell? ⟨gp,1,none⟩=some (.int .i64 p.a):=(Mk.out.cell 1).trans rfl;have s2:w6.drew.cell? ⟨gp,2,none⟩=some (.int .i64 p.b):=(Mk.out.cell 2).trans rfl;have hgp:=Mk.out.lt;go_wp2_with fail
     refine Y9x (S:=fun w'=>w'.cell? ⟨gp,1,none⟩=some (.int .i64 p.a)∧w'.cell? ⟨gp,2,none⟩=some (.int .i64 p.b)) (.tk 0 (.tk 1 (.tk 2 (.tk 4 (.tk 5 (.tk 6 (.rn 3 (.rn 7 (.rn 8 (.rn 9 .fin)))))))))) (by kernel_rfl) (by kernel_rfl) (by kernel_rfl) (fun _ _ _ _ h=>h) ⟨s1,s2⟩ ?_;have Xh:Bx (Below w.heap.size w w6.drew):=bx (below_drewN Yl.out 1);have Ye:Bx (Bk w6.drew g 39 #[.int .i64 c.tag,.int .i64 c.a,.int .i64 c.b,.int .i64 c.num,.string ⟨c.text.toArray⟩]):=bx (Zf.out.drewN 1);have Tv:Bx (Bk w6.drew gp 39 #[.int .i64 p.tag,.int .i64 p.a,.int .i64 p.b,.int .i64 p.num,.string ⟨p.text.toArray⟩]):=bx (Mk.out.drewN 1);generalize w6.drew=w7 at Xh Ye Tv ⊢;clear Yl Zf Mk s1 s2 hgp
     iterate 6 (apply SeqW.take;(· rfl);(· (refine Or.inl ⟨?_,?_⟩;(· rfl);(· (intro w hSw;(try dsimp only at hSw);go_simp <;> with_reducible rfl))));simp only[Act.put,Z01,Z02,Z03,Z06,Z04,Z05])
     refine SeqW.run rfl (fun K hK hP=>?_);go_wp2_with fail
     refine Y9f (x:=x) (b:=b) p.a (HV.out.below Xh.out) ?_ ?_
     ·intro h w8 hb8
      have HX:=bx (Zw.out w8 (Sa.out.trans (cnR_1 h)) (Xh.out.trans (hb8.mono Xh.out.size)));go_wp2;refine hP.out _ _ _ ?_;exact⟨rfl,HX.out⟩
     intro n hn8 w8 hb8;have Kh:=bx hn8;have Vk:=bx (Xh.out.trans (hb8.mono Xh.out.size));have Wr:=bx (Ye.out.below hb8 Ye.out.lt);have Lb:=bx (Tv.out.below hb8 Tv.out.lt);clear hn8 hb8 Xh Ye Tv;go_wp2;refine hK.out _ _ ⟨(Lb.out.cell 1).trans rfl,(Lb.out.cell 2).trans rfl⟩ ?_;clear hK hP K;refine SeqW.run rfl (fun K hK hP=>?_);go_wp2_with fail
     refine Y9f (x:=x) (b:=b) p.b (HV.out.below Vk.out) ?_ ?_
     ·intro h w9 hb9
      have HX:=bx (Zw.out w9 (Sa.out.trans (cnR_2 Kh.out h)) (Vk.out.trans (hb9.mono Vk.out.size)));go_wp2;refine hP.out _ _ _ ?_;exact⟨rfl,HX.out⟩
     intro d hd9 w9 hb9;have U6:=bx hd9;have Xu:=bx (Vk.out.trans (hb9.mono Vk.out.size));have Tj:=bx (Wr.out.below hb9 Wr.out.lt);have So:=bx (Lb.out.below hb9 Lb.out.lt);clear hd9 hb9 Vk Wr Lb;go_wp2;refine hK.out _ _ ⟨(So.out.cell 1).trans rfl,(So.out.cell 2).trans rfl⟩ ?_;clear hK hP K;refine SeqW.run rfl (fun K hK hP=>?_);go_wp2_with fail
     refine hK.out _ _ ⟨(So.out.cell 1).trans rfl,(So.out.cell 2).trans rfl⟩ ?_;clear hK hP K;refine SeqW.run rfl (fun K hK hP=>?_);go_wp2_with fail
     refine hK.out _ _ ⟨(So.out.cell 1).trans rfl,(So.out.cell 2).trans rfl⟩ ?_;clear hK hP K;refine SeqW.done ?_;have Xy:Bx (n.length≤2000000∧d.length≤2000000):=bx ⟨txt_len HV.out.txt Kh.out,txt_len HV.out.txt U6.out⟩;have c0:w9.cell? ⟨g,0,none⟩=some (.int .i64 c.tag):=(Tj.out.cell 0).trans rfl;have hg9:=Tj.out.lt;clear So
     go_upto_if 72 with(fail)
     by_cases h9:c.tag=9
     ·have h9b:(c.tag==9)=true:=by simpa using h9
      have Xk:Bx (cnsK x.p.pool c=(memberB n false&&descB d)):=bx (Sa.out.trans (cnR_3 Kh.out U6.out h9));obtain⟨q1,hq1⟩:∃q1,memberB n false=q1:=⟨_,rfl⟩;obtain⟨q2,hq2⟩:∃q2,descB d=q2:=⟨_,rfl⟩;rw[hq1,hq2]at Xk;have Xt:=bx hq1;have Q4:=bx hq2;clear h9 hq1 hq2;go_wp2_with fail
      refine Y7m n false Xy.out.1 ?_;rw[Xt.out];cases q1 with
      | false=>
       go_wp2_with fail
       refine Y9w _ (fun _=>?_) (fun e=>by cases e);go_wp2;exact⟨rfl,Zw.out _ Xk.out Xu.out⟩
      | true=>
       go_wp2_with fail
       refine Y3h (x:=x) (b:=b) d (HV.out.below Xu.out) Xy.out.2 ?_;intro wa hba;rw[Q4.out];have La:=bx (Xu.out.trans (hba.mono Xu.out.size));clear hba;cases q2 with
       | false=>
        go_wp2_with fail
        refine Y9w _ (fun _=>?_) (fun e=>by cases e);go_wp2;exact⟨rfl,Zw.out _ Xk.out La.out⟩
       | true=>
        go_wp2_with fail
        refine Y9w _ (fun e=>by cases e) (fun _=>?_);go_wp2
        go_meet
        exact bx ⟨La.out,Xk.out⟩
     ·have h9b:(c.tag==9)=false:=by simpa using h9
      have H9:=bx h9;clear h9;go_wp2_with fail
      refine X9o (x:=x) (b:=b) d (HV.out.below Xu.out) Xy.out.2 ?_ ?_
      ·intro h A6 n6 c6 r6 k6 wa hk6 hba
       have hkb:(k6==0)=false:=(by simpa using hk6);have HX:=bx (Zw.out wa (Sa.out.trans (cnR_4 Kh.out U6.out H9.out h)) (Xu.out.trans (hba.mono Xu.out.size)));clear hba;go_wp2_with fail
       refine Y7m n true Xy.out.1 ?_;obtain⟨q1,hq1⟩:∃q1,memberB n true=q1:=⟨_,rfl⟩;rw[hq1];clear hq1;cases q1 with
       | false=>
        go_wp2_with fail
        refine Y9w _ (fun _=>?_) (fun e=>by cases e);go_wp2;exact⟨rfl,HX.out⟩
       | true=>
        go_wp2_with fail
        all_goals
         refine Y9w _ (fun _=>?_) (fun e=>by cases e);go_wp2;exact⟨rfl,HX.out⟩
      intro ps r h A6 n6 c6 wa hn6 hr6 hba;have Xk:Bx (cnsK x.p.pool c=(memberB n true&&decide (n≠clinitL)&&(decide (n≠initL)||(decide (c.tag=10)&&decide (r=[86]))))):=bx (Sa.out.trans (cnR_5 Kh.out U6.out H9.out h));have La:=bx (Xu.out.trans (hba.mono Xu.out.size));have Mz:=bx (Tj.out.below hba Tj.out.lt);clear hn6 hr6 hba h;go_wp2_with fail
      refine Y7m n true Xy.out.1 ?_;obtain⟨q1,hq1⟩:∃q1,memberB n true=q1:=⟨_,rfl⟩;rw[hq1]at Xk ⊢;clear hq1;cases q1 with
      | false=>
       go_wp2_with fail
       refine Y9w _ (fun _=>?_) (fun e=>by cases e);go_wp2;exact⟨rfl,Zw.out _ Xk.out La.out⟩
      | true=>
      rw[Z25]at Xk;go_wp2_with fail
      ·rename n=_=>h
       have HX:=bx (Zw.out wa (by rw[Xk.out,Z48 (fun e=>e h)];rfl) La.out);clear h;refine Y9w _ (fun _=>?_) (fun e=>by cases e);go_wp2;exact⟨rfl,HX.out⟩
      rename ¬n=_=>h
      have Qe:Bx (cnsK x.p.pool c=(decide (n≠initL)||(decide (c.tag=10)&&decide (r=[86])))):=bx (by rw[Xk.out,Z47 (show n≠clinitL from h),Z25]);refine Y9w _ (fun e=>by simp [h]at e) (fun _=>?_);clear h Xk hg9;have c0:wa.cell? ⟨g,0,none⟩=some (.int .i64 c.tag):=(Mz.out.cell 0).trans rfl;have hga:=Mz.out.lt;obtain⟨q10,hq10⟩:∃q10,(c.tag==10)=q10:=⟨_,rfl⟩;have Q1:Bx (decide (c.tag=10)=q10):=bx (by rw[←hq10];rfl);rw[Q1.out]at Qe;cases q10 with
      | false=>
       rw[Bool.false_and,Bool.or_false]at Qe;go_wp2_with fail
       ·rename n=_=>h
        have HX:=bx (Zw.out wa (by rw[Qe.out];exact Z48 (fun e=>e h)) La.out);clear h;refine Y9w _ (fun _=>?_) (fun e=>by cases e);go_wp2;exact⟨rfl,HX.out⟩
       rename ¬n=_=>h
       have HX:Bx (cnsK x.p.pool c=true):=bx (by rw[Qe.out];exact Z47 (show n≠initL from h));clear h;refine Y9w _ (fun e=>by cases e) (fun _=>?_);go_wp2
       go_meet
       exact bx ⟨La.out,HX.out⟩
      | true=>
       rw[Z25]at Qe;go_wp2_with fail
       ·rename n=_=>h
        have Bp:Bx (cnsK x.p.pool c=decide (r=[86])):=bx (by rw[Qe.out,Z48 (fun e=>e h),Bool.false_or]);clear h;refine Y9w _ (fun e=>?_) (fun e=>?_)
        ·have HX:=bx (Zw.out wa (by rw[Bp.out];exact Z48 (by simpa using e)) La.out)
         clear e;go_wp2;exact⟨rfl,HX.out⟩
        ·have HX:Bx (cnsK x.p.pool c=true):=bx (by rw[Bp.out];exact Z47 (by simpa using e))
         clear e;go_wp2
         go_meet
         exact bx ⟨La.out,HX.out⟩
       rename ¬n=_=>h
       have HX:Bx (cnsK x.p.pool c=true):=bx (by rw[Qe.out,Z47 (show n≠initL from h),Bool.true_or]);clear h;refine Y9w _ (fun e=>by cases e) (fun _=>?_);go_wp2
       go_meet
       exact bx ⟨La.out,HX.out⟩
   case rest=>
    have HN:Bx (Below w.heap.size w wc∧(x.p.pool.take (i+1)).all (cnsK x.p.pool)=true):=bx ⟨hcut.out.1,by have h1:x.p.pool[i]? = some c:=Zh.out;obtain⟨h2,e⟩:=Z24.1 h1;rw[List.take_succ_eq_append_getElem h2,List.all_append,Zs.out.2,e];simp [hcut.out.2]⟩;clear hcut Zs;go_step;go_wp2_with fail
    go_roundw
    case rel=>exact⟨i+1,by omega,by go_num,HN⟩
    case measure=>simp [intOf];omega
  ·have hiI:¬(i:Int)<(pn:Int):=by omega
   have HX:Bx (R=true):=bx (by rw[←HR.out];have h1:=Zs.out.2;rw[Z15 (by show x.pool.length≤i;rw[Qg.out];omega)]at h1;exact h1);go_wp2
   go_end0
   rw[HX.out];exact⟨rfl,Zs.out.1⟩
end Go.Proofs.YtpmfiegfbmamiaaDoor
