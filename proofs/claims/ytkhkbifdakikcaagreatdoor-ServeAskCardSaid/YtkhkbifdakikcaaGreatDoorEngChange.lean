/- engine.Change: walked. -/
import Derived.Test.YtkhkbifdakikcaaGreatDoorDomApply
set_option maxRecDepth 100000
set_option maxHeartbeats 4000000
namespace Go.Proofs.YtkhkbifdakikcaaGreatDoor
open Go.RowKit
def EngAns (k:Nat) (w:World) (r:Int×Int×Dc×List It×List Me×List Int):Ending->World->Prop:=Rn w fun w' y=>∃ dv tv mv iv,y=.tuple #[.agg #[dv,tv,mv,iv],.int .i64 r.2.1,.int .i64 r.1] /\
 qKc (fun b=>w.heap.size<=b/\b<w'.heap.size) w' dv r.2.2.1/\ItsK (fun b=>w.heap.size<=b/\b<w'.heap.size) k w' tv r.2.2.2.1/\qKb (fun b=>w.heap.size<=b/\b<w'.heap.size) w' mv r.2.2.2.2.1/\qQa 1 qQf (fun b=>w.heap.size<=b/\b<w'.heap.size) w' iv r.2.2.2.2.2
theorem qHj {m k:Nat} {dv tv mv iv:Value} {d:Dc} {t:List It} {M:List Me} {y:List Int} {w:World} (x:Chg) (hd:qZh m w dv d) (ht:ItsK (·<m) k w tv t) (ar:qKb (·<m) w mv M) (hi:qKn m w iv y) (hm:m<=w.heap.size) (b1:Good d)
 (cn:x.name.length<=9223372036854775807) (cp:x.value.length<=9223372036854775807) (bn:∀ x∈d,x.attrs.length<=1000/\x.kids.length<=1000/\x.shadow.length<=1000) (co:(nodesL t).length<=1000000000) (cm:M.length<=1000000000) (bs:∀ x∈M,x.uses.length<=1000000000) (cx:y.length+1<=1000000000) :
 Calls Tryz.prog 9 #[.agg #[dv,tv,mv,iv],chgV x] w (EngAns k w (qKu d t M y x)):=by
 obtain ⟨da,dc,rfl,_,_⟩:=Rf hd;obtain ⟨ta,tc,rfl,_,_⟩:=Rf ht;obtain ⟨ma,mc,rfl,_,_⟩:=Rf ar;obtain ⟨ia,ic,rfl,_,_⟩:=Rf hi;have cw:=b1.len;obtain ⟨p,a2⟩:∃ p,p=((w.alloc (.cells #[.slice da d.length dc,.slice ta t.length tc,.slice ma M.length mc,.slice ia y.length ic] 30)).alloc (.cells #[.int .i64 x.kind,.int .i64 x.node,.int .i64 x.dest,.int .i64 x.before,.string ⟨x.name.toArray⟩,.string ⟨x.value.toArray⟩] 36)).alloc (.cells #[.slice none 0 0,.slice none 0 0,.slice none 0 0,.slice none 0 0] 30):=⟨_,rfl⟩;have a5:Bel w p:=by rw [a2];exact (((Br w).alloc _).alloc _).alloc _
 have bh:Blk p w.heap.size [.slice da d.length dc,.slice ta t.length tc,.slice ma M.length mc,.slice ia y.length ic] 30:=by rw [a2];exact ((Blk.new' w _ rfl _ _).bel ((Br _).alloc _)).bel ((Br _).alloc _)
 have bi:Blk p (w.heap.size+1) [.int .i64 x.kind,.int .i64 x.node,.int .i64 x.dest,.int .i64 x.before,.string ⟨x.name.toArray⟩,.string ⟨x.value.toArray⟩] 36:=by rw [a2];exact (Blk.new' _ _ (by simp) _ _).bel ((Br _).alloc _)
 have bj:Blk p (w.heap.size+2) [.slice none 0 0,.slice none 0 0,.slice none 0 0,.slice none 0 0] 30:=by rw [a2];exact Blk.new' _ _ (by simp) _ _
 have cl:=Za hm a5.size;have cA:=lH (zX1 m _ d x p (hd.later a5 hm) cl b1 cn cp);have cO:Hi (∀ W,Bel p W->Calls Tryz.prog 19 #[.agg #[.slice da d.length dc,.slice ta t.length tc,.slice ma M.length mc,.slice ia y.length ic]] W (Rn W fun w' cr=>∃ bd bx bu ac,cr=.agg #[bd,bx,bu,ac]/\qKc (fun b=>(W.heap.size<=b/\b<w'.heap.size)/\ac.ownBlock≠some b) w' bd d/\ItsK (fun b=>(W.heap.size<=b/\b<w'.heap.size)/\ac.ownBlock≠some b) k w' bx t/\qKb (fun b=>(W.heap.size<=b/\b<w'.heap.size)/\ac.ownBlock≠some b) w' bu M/\qQb 1 qQf W.heap.size 3 w' ac y)):=lH (fun W hW=>by
  have a6:=Bt a5 hW;exact qVw (hd.later a6 hm) (ht.later a6 hm) (ar.later a6 hm) (qQa.later hi qQc a6 hm) (Za hm a6.size) (by omega) bn co cm bs (by omega))
 have cP:=lH (fun W=>qHn x W);have af:=lH a5;have b7:=lH bh;have E:=lH bi;have O:=lH bj;obtain ⟨b0,hE⟩:∃ b0,b0=qKu d t M y x:=⟨_,rfl⟩;rw [<- hE];unfold qKu at hE;generalize qQ7 d x=cd at *
 obtain ⟨e,cy,D⟩:=cd;simp only at hE;have HE:=lH hE;clear hE hd ht ar hi a5 bh bi bj bn bs;obtain ⟨xk,X,xd,xb,xm,xv⟩:=x;simp only [chgV] at *
 go_enter Tryz.func9,Tryz.ntmps9
 go_upto_region 1 with fail
 rw [<- a2];clear a2;have k0:=b7.o.cell 0;have c0:=E.o.cell 0;have c1:=E.o.cell 1;have c2:=E.o.cell 2;have c3:=E.o.cell 3;have c4:=E.o.cell 4;have c5:=E.o.cell 5;simp only [Zd,Ze] at k0 c0 c1 c2 c3 c4 c5;by_cases he:e=0
 ·subst he;go_upto_region 6 with (first
 | (go_at_call 18;(with_reducible refine cA.o.mono ?_);rintro e q ⟨b2,v2,rfl,u2,rfl,o2⟩;obtain ⟨u,U,rfl,_,_⟩:=Rf o2;have g:=lH b2;have aj:=lH o2;have aa:=b7.o.bel b2;have e0:=aa.cell 0;have e1:=aa.cell 1;have e2:=aa.cell 2;have e3:=aa.cell 3;simp only [Zd,Ze] at e0 e1 e2 e3;clear b2 o2 aa)
 | (go_at_call 19;(with_reducible refine (cO.o _ g.o).mono ?_);rintro e a ⟨b3,v3,rfl,dv,tv,mv,iv,rfl,o3,p3,q3,r3⟩;obtain ⟨cu,cv,rfl,_,_⟩:=Rf o3;obtain ⟨T,c,rfl,_,_⟩:=Rf p3;obtain ⟨n,o,rfl,_,_⟩:=Rf q3;obtain ⟨i,I,rfl,_,_⟩:=Rf r3.read;have l:=lH b3;have ai:=lH p3;have b9:=lH q3;have C:=lH r3;clear b3 o3 p3 q3 r3))
  have bk:Blk (a.alloc (.cells #[.slice u D.length U,.slice T t.length c,.slice n M.length o,.slice i y.length I] 30)) a.heap.size [.slice u D.length U,.slice T t.length c,.slice n M.length o,.slice i y.length I] 30:=Blk.new' a _ rfl _ _
  have be:Bel a (a.alloc (.cells #[.slice u D.length U,.slice T t.length c,.slice n M.length o,.slice i y.length I] 30)):=(Br a).alloc _
  have F:=lH bk
  have G:=lH be
  have bq:(a.alloc (.cells #[.slice u D.length U,.slice T t.length c,.slice n M.length o,.slice i y.length I] 30)).heap.size=a.heap.size+1:=by simp
  have cs:=lH bq
  clear bk be bq
  generalize (a.alloc (.cells #[.slice u D.length U,.slice T t.length c,.slice n M.length o,.slice i y.length I] 30))=w4 at *
  have n0:=F.o.cell 0
  have n1:=F.o.cell 1
  have n2:=F.o.cell 2
  have n3:=F.o.cell 3
  have f2:=F.o.frozen 2
  have f3:=F.o.frozen 3
  simp only [Zd,Ze] at n0 n1 n2 n3
  have S:=((E.o.bel g.o).bel l.o).bel G.o
  have d0:=S.cell 0
  have d1:=S.cell 1
  have d2:=S.cell 2
  have d3:=S.cell 3
  have d4:=S.cell 4
  have d5:=S.cell 5
  simp only [Zd,Ze] at d0 d1 d2 d3 d4 d5
  clear S
  cases hp:qKo ⟨xk,X,xd,xb,xm,xv⟩ with
  | false=>
    rw [hp] at cP;have HP:=lH hp;clear hp;go_upto_region 11 with (go_at_call 20;(with_reducible refine (cP.o _).mono ?_);rintro e j ⟨rfl,B⟩;have K:=lH B;have f:=F.o.bel B;have N:=f.cell 2;have J:=f.cell 3;have cg:=f.frozen 2;have ch:=f.frozen 3;simp only [Zd,Ze] at N J;have a4:=lH f;clear B f)
    have bl:Blk ((j.setCell ⟨a.heap.size,2,none⟩ (.slice none 0 0)).setCell ⟨a.heap.size,3,none⟩ (.slice none 0 0)) a.heap.size [.slice u D.length U,.slice T t.length c,.slice none 0 0,.slice none 0 0] 30:=((a4.o.set 2 _).set 3 _);have bg:FrE a.heap.size j ((j.setCell ⟨a.heap.size,2,none⟩ (.slice none 0 0)).setCell ⟨a.heap.size,3,none⟩ (.slice none 0 0)):=(((FrE.refl _ j).set _).set _);have bm:Bel a j:=Bt G.o K.o;have bf:Bel a ((j.setCell ⟨a.heap.size,2,none⟩ (.slice none 0 0)).setCell ⟨a.heap.size,3,none⟩ (.slice none 0 0)):=bg.bel bm (Zb _);have ag:=lH bl;have A:=lH bf;clear bl bg bm bf N J cg ch;generalize ((j.setCell ⟨a.heap.size,2,none⟩ (.slice none 0 0)).setCell ⟨a.heap.size,3,none⟩ (.slice none 0 0))=w6 at *
    have q0:=ag.o.cell 0;have q1:=ag.o.cell 1;have q2:=ag.o.cell 2;have q3:=ag.o.cell 3;have R:=((O.o.bel g.o).bel l.o).bel A.o;have m0:=R.cell 0;have m1:=R.cell 1;have m2:=R.cell 2;have m3:=R.cell 3;have av:=R.frozen 0;have aw:=R.frozen 1;have ax:=R.frozen 2;have ay:=R.frozen 3;simp only [Zd,Ze] at q0 q1 q2 q3 m0 m1 m2 m3;have P:Hi (Blk ((((w6.setCell ⟨w.heap.size+2,0,none⟩ (.slice u D.length U)).setCell ⟨w.heap.size+2,1,none⟩ (.slice T t.length c)).setCell ⟨w.heap.size+2,2,none⟩ (.slice none 0 0)).setCell ⟨w.heap.size+2,3,none⟩ (.slice none 0 0)) (w.heap.size+2) [.slice u D.length U,.slice T t.length c,.slice none 0 0,.slice none 0 0] 30):=lH ((((R.set 0 _).set 1 _).set 2 _).set 3 _);have Z:Hi (FrE (w.heap.size+2) w6 ((((w6.setCell ⟨w.heap.size+2,0,none⟩ (.slice u D.length U)).setCell ⟨w.heap.size+2,1,none⟩ (.slice T t.length c)).setCell ⟨w.heap.size+2,2,none⟩ (.slice none 0 0)).setCell ⟨w.heap.size+2,3,none⟩ (.slice none 0 0))):=lH (((((FrE.refl _ w6).set _).set _).set _).set _);clear R;go_wp2;generalize ((((w6.setCell ⟨w.heap.size+2,0,none⟩ (.slice u D.length U)).setCell ⟨w.heap.size+2,1,none⟩ (.slice T t.length c)).setCell ⟨w.heap.size+2,2,none⟩ (.slice none 0 0)).setCell ⟨w.heap.size+2,3,none⟩ (.slice none 0 0))=z at *
    obtain ⟨r,Y,a0⟩:=qXr;have S1:w.heap.size+2<p.heap.size:=O.o.lt;have S2:=g.o.size;have S3:=l.o.size;have S6:=A.o.size;have S7:=Z.o.size;have Q:Bel w z:=Z.o.bel (Bt af.o (Bt g.o (Bt l.o A.o))) (by omega);have s:∀ b,p.heap.size<=b->b<a.heap.size->z.heap[b]?=a.heap[b]?:=fun b h1 h2=>(Z.o.block b (by omega) (by omega)).trans (A.o.block b h2);have a7:qKc (fun b=>w.heap.size<=b/\b<z.heap.size) z (.slice u D.length U) D:=(aj.o.agree (fun b H=>(s b H.1 (by omega)).trans (l.o.block b H.2))).mono (fun b H=>⟨by omega,by omega⟩);have a8:ItsK (fun b=>w.heap.size<=b/\b<z.heap.size) k z (.slice T t.length c) t:=(ai.o.agree (fun b H=>s b (by omega) (by omega))).mono (fun b H=>⟨by omega,by omega⟩);refine bodyPost_ret (qZx rfl _ _ (w.heap.size+2) _ _ _ r rfl P.o Y (by revert a0;cases r <;> intro h <;> exact h) (by kernel_rfl)) rfl ?_;have hE:=HE.o;rw [if_pos trivial,HP.o] at hE;simp only [Bool.false_eq_true,if_false] at hE;rw [hE];exact ⟨Q,_,rfl,_,_,_,_,rfl,a7,a8,qQa.nil,qQa.nil⟩
  | true=>
    rw [hp] at cP;have HP:=lH hp;clear hp;cases hc:y.contains X with
    | true=>
      have HC:=lH hc;have cC:Hi (∀ W,Bel w4 W->Calls Tryz.prog 21 #[.slice i y.length I,.int .i64 X] W (Rv (.bool true) W)):=lH (fun W hW=>by
       have hi:qKn a.heap.size W (.slice i y.length I) y:=qQa.later C.o.read qQc (Bt G.o hW) (Zb _);have:=qJk _ _ y X W hi;rw [hc] at this;exact this)
      clear hc;go_upto_region 11 with (first
 | (go_at_call 20;(with_reducible refine (cP.o _).mono ?_);rintro e j ⟨rfl,B⟩;have K:=lH B;have f:=F.o.bel B;have ad:=f.cell 0;have ae:=f.cell 1;have N:=f.cell 2;have J:=f.cell 3;have ab:=((E.o.bel g.o).bel l.o).bel (Bt G.o B);have ak:=ab.cell 1;simp only [Zd,Ze] at ak;clear ab;simp only [Zd,Ze] at ad ae N J;have a4:=lH f;clear B f)
 | (go_at_call 21;(with_reducible refine (cC.o _ K.o).mono ?_);rintro e w7 ⟨rfl,rfl⟩))
      have A:=lH (Bt G.o K.o)
      have R:=((O.o.bel g.o).bel l.o).bel A.o
      have m0:=R.cell 0
      have m1:=R.cell 1
      have m2:=R.cell 2
      have m3:=R.cell 3
      have av:=R.frozen 0
      have aw:=R.frozen 1
      have ax:=R.frozen 2
      have ay:=R.frozen 3
      simp only [Zd,Ze] at m0 m1 m2 m3
      have P:Hi (Blk ((((j.setCell ⟨w.heap.size+2,0,none⟩ (.slice u D.length U)).setCell ⟨w.heap.size+2,1,none⟩ (.slice T t.length c)).setCell ⟨w.heap.size+2,2,none⟩ (.slice n M.length o)).setCell ⟨w.heap.size+2,3,none⟩ (.slice i y.length I)) (w.heap.size+2) [.slice u D.length U,.slice T t.length c,.slice n M.length o,.slice i y.length I] 30):=lH ((((R.set 0 _).set 1 _).set 2 _).set 3 _)
      have Z:Hi (FrE (w.heap.size+2) j ((((j.setCell ⟨w.heap.size+2,0,none⟩ (.slice u D.length U)).setCell ⟨w.heap.size+2,1,none⟩ (.slice T t.length c)).setCell ⟨w.heap.size+2,2,none⟩ (.slice n M.length o)).setCell ⟨w.heap.size+2,3,none⟩ (.slice i y.length I))):=lH (((((FrE.refl _ j).set _).set _).set _).set _)
      clear R
      go_wp2
      generalize ((((j.setCell ⟨w.heap.size+2,0,none⟩ (.slice u D.length U)).setCell ⟨w.heap.size+2,1,none⟩ (.slice T t.length c)).setCell ⟨w.heap.size+2,2,none⟩ (.slice n M.length o)).setCell ⟨w.heap.size+2,3,none⟩ (.slice i y.length I))=z at *
      obtain ⟨r,Y,a0⟩:=qXr
      have S1:w.heap.size+2<p.heap.size:=O.o.lt
      have S2:=g.o.size
      have S3:=l.o.size
      have S6:=A.o.size
      have S7:=Z.o.size
      have Q:Bel w z:=Z.o.bel (Bt af.o (Bt g.o (Bt l.o A.o))) (by omega)
      have s:∀ b,p.heap.size<=b->b<a.heap.size->z.heap[b]?=a.heap[b]?:=fun b h1 h2=>(Z.o.block b (by omega) (by omega)).trans (A.o.block b h2)
      have a7:qKc (fun b=>w.heap.size<=b/\b<z.heap.size) z (.slice u D.length U) D:=(aj.o.agree (fun b H=>(s b H.1 (by omega)).trans (l.o.block b H.2))).mono (fun b H=>⟨by omega,by omega⟩)
      have a8:ItsK (fun b=>w.heap.size<=b/\b<z.heap.size) k z (.slice T t.length c) t:=(ai.o.agree (fun b H=>s b (by omega) (by omega))).mono (fun b H=>⟨by omega,by omega⟩)
      have an:qKb (fun b=>w.heap.size<=b/\b<z.heap.size) z (.slice n M.length o) M:=(b9.o.agree (fun b H=>s b (by omega) (by omega))).mono (fun b H=>⟨by omega,by omega⟩)
      have am:qQa 1 qQf (fun b=>w.heap.size<=b/\b<z.heap.size) z (.slice i y.length I) y:=(C.o.agree (w':=z) (fun b H=>by have az:=C.o.lt b H;exact s b (by omega) (by omega)) (fun _ _ _ h=>h)).row.mono (fun b H=>⟨by have:=H.1;omega,H.2.1⟩) (fun _ _ _ h=>h)
      refine bodyPost_ret (qZx rfl _ _ (w.heap.size+2) _ _ _ r rfl P.o Y (by revert a0;cases r <;> intro h <;> exact h) (by kernel_rfl)) rfl ?_
      have hE:=HE.o
      have ao:qWl y X=y:=by unfold qWl;rw [if_pos HC.o]
      rw [if_pos trivial,HP.o] at hE
      simp only [if_true,ao] at hE
      rw [hE]
      exact ⟨Q,_,rfl,_,_,_,_,rfl,a7,a8,an,am⟩
    | false=>
      have HC:=lH hc;have cC:Hi (∀ W,Bel w4 W->Calls Tryz.prog 21 #[.slice i y.length I,.int .i64 X] W (Rv (.bool false) W)):=lH (fun W hW=>by
       have hi:qKn a.heap.size W (.slice i y.length I) y:=qQa.later C.o.read qQc (Bt G.o hW) (Zb _);have:=qJk _ _ y X W hi;rw [hc] at this;exact this)
      clear hc;go_upto_region 9 with (first
 | (go_at_call 20;(with_reducible refine (cP.o _).mono ?_);rintro e j ⟨rfl,B⟩;have K:=lH B;have f:=F.o.bel B;have ad:=f.cell 0;have ae:=f.cell 1;have N:=f.cell 2;have J:=f.cell 3;have ab:=((E.o.bel g.o).bel l.o).bel (Bt G.o B);have ak:=ab.cell 1;simp only [Zd,Ze] at ak;clear ab;simp only [Zd,Ze] at ad ae N J;have a4:=lH f;clear B f)
 | (go_at_call 21;(with_reducible refine (cC.o _ K.o).mono ?_);rintro e w7 ⟨rfl,rfl⟩))
      have b4:=lH (Bt G.o K.o)
      have c7:Hi (qQb 1 qQf q.heap.size 3 j (.slice i y.length I) y):=lH (C.o.agree (fun b H=>b4.o.block b (C.o.lt b H).2) (fun _ _ _ h=>h))
      have cf:a.heap.size<j.heap.size:=a4.o.lt
      have ct:q.heap.size<=a.heap.size:=l.o.size
      have ce:q.heap.size<=j.heap.size:=by omega
      have bt:(y++[X]).length=y.length+1:=by simp
      go_upto_region 10 with (at_builtin;(refine qJw rfl _ _ _ rfl qJg (by decide) (rd:=qQf) (v:=.slice i y.length I) ?hst ?hone (base:=q.heap.size) rfl c7.o rfl ?hgs X ?hC ?hby ?hmx ce ?_;(case hst=>exact fun _ _ _ _ h=>h);(case hone=>exact qKq);(case hgs=>rfl);(case hC=>exact ⟨rfl,rfl⟩);(case hby=>omega);(case hmx=>omega);intro v8 w8 o8 g8 f8;obtain ⟨v,V,rfl,cz,d6⟩:=Rf o8.read;rw [bt] at o8 f8;have ca:=lH o8;have b5:=lH g8;have bz:=lH f8;have ah:=a4.o.of (g8.block a.heap.size cf (fun e=>by have:=(C.o.lt _ e.symm).2;omega));have bv:=ah.cell 3;have ci:=ah.frozen 3;simp only [Zd,Ze] at bv;have c8:=lH ah;clear o8 g8 f8 ah))
      have au:∀ b,(Value.slice v (y.length+1) V).ownBlock=some b->b≠a.heap.size/\((Value.slice i y.length I).ownBlock=some b∨j.heap.size<=b):=fun b H=>by
       rcases bz.o with e | ⟨az,e,hq⟩
       ·rw [e] at H;have:=(C.o.lt b H).2;exact ⟨by omega,.inl H⟩
       ·rw [e] at H;cases H;exact ⟨by omega,.inr hq⟩
      have bb:=lH au
      have bo:=c8.o.set 3 (.slice v (y.length+1) V)
      have br:qQb 1 qQf q.heap.size 3 (w8.setCell ⟨a.heap.size,3,none⟩ (.slice v (y.length+1) V)) (.slice v (y.length+1) V) (y++[X]):=ca.o.agree (fun b H=>Below.heap_setCell w8 _ _ b (au b H).1) (fun _ _ _ h=>h)
      have bp:Kp (fun b=>b<a.heap.size/\(Value.slice i y.length I).ownBlock≠some b) a (w8.setCell ⟨a.heap.size,3,none⟩ (.slice v (y.length+1) V)):=((Kp.of_bel b4.o).trans (Kp.of_grown b5.o (fun b _ hK e=>hK.2 e.symm)) (fun _ _ h=>h)).trans (K':=fun b=>b<a.heap.size/\(Value.slice i y.length I).ownBlock≠some b) ⟨rfl,rfl,rfl,Nat.le_of_eq (World.size_setCell ..).symm,fun b _ hK=>Below.heap_setCell w8 _ _ b (by show b≠a.heap.size;have:=hK.1;omega)⟩ (fun _ _ h=>h)
      have bc:j.heap.size<=(w8.setCell ⟨a.heap.size,3,none⟩ (.slice v (y.length+1) V)).heap.size:=by rw [World.size_setCell];exact b5.o.size
      have b8:=lH bo
      have cb:=lH br
      have c9:=lH bp
      have cc:=lH bc
      clear bo br bp au bc bv ci
      generalize (w8.setCell ⟨a.heap.size,3,none⟩ (.slice v (y.length+1) V))=w9 at *
      have cq:=b8.o.cell 3
      simp only [Zf,Zg,Zd,Ze] at cq
      have cS:=lH (qW6 cb.o (by simp) (by rw [bt];omega))
      go_upto_region 11 with (go_at_call 22;(with_reducible refine cS.o.mono ?_);rintro e a3 ⟨rfl,bw,al⟩;have ba:=lH bw;have c6:=lH al;have a9:=b8.o.of (al.block a.heap.size (by have:=cc.o;omega) (fun e=>(bb.o _ e.symm).1 rfl));have ad:=a9.cell 0;have ae:=a9.cell 1;have N:=a9.cell 2;have J:=a9.cell 3;simp only [Zf,Zg,Zd,Ze] at ad ae N J;clear bw al a9)
      have aq:=c9.o.trans (K':=fun b=>b<a.heap.size/\(Value.slice i y.length I).ownBlock≠some b) (Kp.of_grown c6.o (fun b _ hK e=>by
       rcases (bb.o b e.symm).2 with h | h
       ·exact hK.2 h
       ·have:=hK.1;omega)) (fun _ _ h=>h)
      have S1:w.heap.size+2<p.heap.size:=O.o.lt
      have S2:=g.o.size
      have ap:∀ b,b<q.heap.size->(Value.slice i y.length I).ownBlock≠some b:=fun b H e=>by have:=(C.o.lt b e).1;omega
      have R:=((O.o.bel g.o).bel l.o).of (aq.block (w.heap.size+2) (by omega) ⟨by omega,ap _ (by omega)⟩)
      have a1:=lH aq
      have b6:=lH ap
      clear aq ap
      have m0:=R.cell 0
      have m1:=R.cell 1
      have m2:=R.cell 2
      have m3:=R.cell 3
      have av:=R.frozen 0
      have aw:=R.frozen 1
      have ax:=R.frozen 2
      have ay:=R.frozen 3
      simp only [Zd,Ze] at m0 m1 m2 m3
      have P:Hi (Blk ((((a3.setCell ⟨w.heap.size+2,0,none⟩ (.slice u D.length U)).setCell ⟨w.heap.size+2,1,none⟩ (.slice T t.length c)).setCell ⟨w.heap.size+2,2,none⟩ (.slice n M.length o)).setCell ⟨w.heap.size+2,3,none⟩ (.slice v (y.length+1) V)) (w.heap.size+2) [.slice u D.length U,.slice T t.length c,.slice n M.length o,.slice v (y.length+1) V] 30):=lH ((((R.set 0 _).set 1 _).set 2 _).set 3 _)
      have Z:Hi (FrE (w.heap.size+2) a3 ((((a3.setCell ⟨w.heap.size+2,0,none⟩ (.slice u D.length U)).setCell ⟨w.heap.size+2,1,none⟩ (.slice T t.length c)).setCell ⟨w.heap.size+2,2,none⟩ (.slice n M.length o)).setCell ⟨w.heap.size+2,3,none⟩ (.slice v (y.length+1) V))):=lH (((((FrE.refl _ a3).set _).set _).set _).set _)
      clear R
      go_wp2
      generalize ((((a3.setCell ⟨w.heap.size+2,0,none⟩ (.slice u D.length U)).setCell ⟨w.heap.size+2,1,none⟩ (.slice T t.length c)).setCell ⟨w.heap.size+2,2,none⟩ (.slice n M.length o)).setCell ⟨w.heap.size+2,3,none⟩ (.slice v (y.length+1) V))=z at *
      obtain ⟨r,Y,a0⟩:=qXr
      have S6:=a1.o.size
      have S7:=Z.o.size
      have cj:Bel p a3:=⟨a1.o.os.trans (Bt g.o l.o).os,a1.o.tape.trans (Bt g.o l.o).tape,a1.o.output.trans (Bt g.o l.o).output,by omega,fun b H=>(a1.o.block b (by omega) ⟨by omega,b6.o b (by omega)⟩).trans ((Bt g.o l.o).block b H)⟩
      have Q:Bel w z:=Z.o.bel (Bt af.o cj) (by omega)
      have s:∀ b,p.heap.size<=b->b<a.heap.size->(Value.slice i y.length I).ownBlock≠some b->z.heap[b]?=a.heap[b]?:=fun b h1 h2 h3=>(Z.o.block b (by omega) (by omega)).trans (a1.o.block b h2 ⟨h2,h3⟩)
      have a7:qKc (fun b=>w.heap.size<=b/\b<z.heap.size) z (.slice u D.length U) D:=(aj.o.agree (fun b H=>(s b H.1 (by omega) (b6.o b H.2)).trans (l.o.block b H.2))).mono (fun b H=>⟨by omega,by omega⟩)
      have a8:ItsK (fun b=>w.heap.size<=b/\b<z.heap.size) k z (.slice T t.length c) t:=(ai.o.agree (fun b H=>s b (by omega) (by omega) H.2)).mono (fun b H=>⟨by omega,by omega⟩)
      have an:qKb (fun b=>w.heap.size<=b/\b<z.heap.size) z (.slice n M.length o) M:=(b9.o.agree (fun b H=>s b (by omega) (by omega) H.2)).mono (fun b H=>⟨by omega,by omega⟩)
      have am:qQa 1 qQf (fun b=>w.heap.size<=b/\b<z.heap.size) z (.slice v (y.length+1) V) ((y++[X]).mergeSort leI):=(ba.o.agree (w':=z) (fun b H=>by have az:=ba.o.lt b H;exact Z.o.block b az.2 (by omega)) (fun _ _ _ h=>h)).row.mono (fun b H=>⟨by have:=H.1;omega,H.2.1⟩) (fun _ _ _ h=>h)
      refine bodyPost_ret (qZx rfl _ _ (w.heap.size+2) _ _ _ r rfl P.o Y (by revert a0;cases r <;> intro h <;> exact h) (by kernel_rfl)) rfl ?_
      have hE:=HE.o
      have ao:qWl y X=(y++[X]).mergeSort leI:=by unfold qWl;rw [if_neg (by rw [HC.o];simp)]
      rw [if_pos trivial,HP.o] at hE
      simp only [if_true,ao] at hE
      rw [hE]
      exact ⟨Q,_,rfl,_,_,_,_,rfl,a7,a8,an,am⟩
 ·have ck:Hi (e≠0):=lH he;go_upto_region 3 with (go_at_call 18;(with_reducible refine cA.o.mono ?_);rintro e q ⟨b2,v2,rfl,u2,rfl,o2⟩;obtain ⟨u,U,rfl,_,_⟩:=Rf o2;have g:=lH b2;clear b2 o2)
  have R:=O.o.bel g.o;have m0:=R.cell 0;have m1:=R.cell 1;have m2:=R.cell 2;have m3:=R.cell 3;have av:=R.frozen 0;have aw:=R.frozen 1;have ax:=R.frozen 2;have ay:=R.frozen 3;simp only [Zd,Ze] at m0 m1 m2 m3;have P:Hi (Blk ((((q.setCell ⟨w.heap.size+2,0,none⟩ (.slice none 0 0)).setCell ⟨w.heap.size+2,1,none⟩ (.slice none 0 0)).setCell ⟨w.heap.size+2,2,none⟩ (.slice none 0 0)).setCell ⟨w.heap.size+2,3,none⟩ (.slice none 0 0)) (w.heap.size+2) [.slice none 0 0,.slice none 0 0,.slice none 0 0,.slice none 0 0] 30):=lH ((((R.set 0 _).set 1 _).set 2 _).set 3 _);have Z:Hi (FrE (w.heap.size+2) q ((((q.setCell ⟨w.heap.size+2,0,none⟩ (.slice none 0 0)).setCell ⟨w.heap.size+2,1,none⟩ (.slice none 0 0)).setCell ⟨w.heap.size+2,2,none⟩ (.slice none 0 0)).setCell ⟨w.heap.size+2,3,none⟩ (.slice none 0 0))):=lH (((((FrE.refl _ q).set _).set _).set _).set _);clear R;go_wp2;generalize ((((q.setCell ⟨w.heap.size+2,0,none⟩ (.slice none 0 0)).setCell ⟨w.heap.size+2,1,none⟩ (.slice none 0 0)).setCell ⟨w.heap.size+2,2,none⟩ (.slice none 0 0)).setCell ⟨w.heap.size+2,3,none⟩ (.slice none 0 0))=z at *
  obtain ⟨r,Y,a0⟩:=qXr;have Q:Bel w z:=Z.o.bel (Bt af.o g.o) (by omega);refine bodyPost_ret (qZx rfl _ _ (w.heap.size+2) _ _ _ r rfl P.o Y (by revert a0;cases r <;> intro h <;> exact h) (by kernel_rfl)) rfl ?_;have hE:=HE.o;rw [if_neg ck.o] at hE;rw [hE];exact ⟨Q,_,rfl,_,_,_,_,rfl,qQa.nil,qQa.nil,qQa.nil,qQa.nil⟩
