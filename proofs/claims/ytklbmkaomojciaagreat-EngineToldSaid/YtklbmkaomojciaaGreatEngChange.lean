/- engine.Change: walked. -/
import Derived.Test.YtklbmkaomojciaaGreatDomApply
set_option maxRecDepth 100000
set_option maxHeartbeats 4000000
namespace Go.Proofs.YtklbmkaomojciaaGreat
open Go.RowKit
def EngAns (k:Nat) (w:World) (r:Int×Int×Dc×List It×List Me×List Int):Ending->World->Prop:=Rn w fun w' y=>∃ dv tv mv iv,y=.tuple #[.agg #[dv,tv,mv,iv],.int .i64 r.2.1,.int .i64 r.1] /\
 qJ4 (fun b=>w.heap.size<=b/\b<w'.heap.size) w' dv r.2.2.1/\ItsK (fun b=>w.heap.size<=b/\b<w'.heap.size) k w' tv r.2.2.2.1/\qJ3 (fun b=>w.heap.size<=b/\b<w'.heap.size) w' mv r.2.2.2.2.1/\qQa 1 qQf (fun b=>w.heap.size<=b/\b<w'.heap.size) w' iv r.2.2.2.2.2
theorem qBu {m k:Nat} {dv tv mv iv:Value} {d:Dc} {told:List It} {memos:List Me} {dirty:List Int} {w:World} (x:Chg) (hd:qZb m w dv d) (ht:ItsK (·<m) k w tv told) (hme:qJ3 (·<m) w mv memos) (hi:qKf m w iv dirty) (hm:m<=w.heap.size) (G:Good d)
 (hnl:x.name.length<=9223372036854775807) (hvl:x.value.length<=9223372036854775807) (hdA:∀ x∈d,x.attrs.length<=1000/\x.kids.length<=1000/\x.shadow.length<=1000) (htl:(nodesL told).length<=1000000000) (hml:memos.length<=1000000000) (hul:∀ x∈memos,x.uses.length<=1000000000) (hil:dirty.length+1<=1000000000) :
 Calls Tryz.prog 49 #[.agg #[dv,tv,mv,iv],chgV x] w (EngAns k w (qKj d told memos dirty x)):=by
 obtain ⟨da,dc,rfl,_,_⟩:=Rf hd
 obtain ⟨ta,tc,rfl,_,_⟩:=Rf ht
 obtain ⟨ma,mc,rfl,_,_⟩:=Rf hme
 obtain ⟨ia,ic,rfl,_,_⟩:=Rf hi
 have hdl:=G.len
 obtain ⟨w1,hw1⟩:∃ w1,w1=((w.alloc (.cells #[.slice da d.length dc,.slice ta told.length tc,.slice ma memos.length mc,.slice ia dirty.length ic] 70)).alloc (.cells #[.int .i64 x.kind,.int .i64 x.node,.int .i64 x.dest,.int .i64 x.before,.string ⟨x.name.toArray⟩,.string ⟨x.value.toArray⟩] 40)).alloc (.cells #[.slice none 0 0,.slice none 0 0,.slice none 0 0,.slice none 0 0] 70):=⟨_,rfl⟩
 have hB1:Bel w w1:=by rw [hw1];exact (((Br w).alloc _).alloc _).alloc _
 have hK1:Blk w1 w.heap.size [.slice da d.length dc,.slice ta told.length tc,.slice ma memos.length mc,.slice ia dirty.length ic] 70:=by rw [hw1];exact ((Blk.new' w _ rfl _ _).bel ((Br _).alloc _)).bel ((Br _).alloc _)
 have hK2:Blk w1 (w.heap.size+1) [.int .i64 x.kind,.int .i64 x.node,.int .i64 x.dest,.int .i64 x.before,.string ⟨x.name.toArray⟩,.string ⟨x.value.toArray⟩] 40:=by rw [hw1];exact (Blk.new' _ _ (by simp) _ _).bel ((Br _).alloc _)
 have hK3:Blk w1 (w.heap.size+2) [.slice none 0 0,.slice none 0 0,.slice none 0 0,.slice none 0 0] 70:=by rw [hw1];exact Blk.new' _ _ (by simp) _ _
 have hm1:=Za hm hB1.size
 have cA:=lH (zYd m _ d x w1 (hd.later hB1 hm) hm1 G hnl hvl)
 have cO:Hi (∀ W,Bel w1 W->Calls Tryz.prog 84 #[.agg #[.slice da d.length dc,.slice ta told.length tc,.slice ma memos.length mc,.slice ia dirty.length ic]] W (Rn W fun w' y=>∃ dv' tv' mv' iv',y=.agg #[dv',tv',mv',iv']/\qJ4 (fun b=>(W.heap.size<=b/\b<w'.heap.size)/\iv'.ownBlock≠some b) w' dv' d/\ItsK (fun b=>(W.heap.size<=b/\b<w'.heap.size)/\iv'.ownBlock≠some b) k w' tv' told/\qJ3 (fun b=>(W.heap.size<=b/\b<w'.heap.size)/\iv'.ownBlock≠some b) w' mv' memos/\qQb 1 qQf W.heap.size 3 w' iv' dirty)):=lH (fun W hW=>by
  have hBW:=Bt hB1 hW
  exact qXx (hd.later hBW hm) (ht.later hBW hm) (hme.later hBW hm) (qQa.later hi qQc hBW hm) (Za hm hBW.size) (by omega) hdA htl hml hul (by omega))
 have cP:=lH (fun W=>qYv x W)
 have HB1:=lH hB1
 have HK1:=lH hK1
 have HK2:=lH hK2
 have HK3:=lH hK3
 obtain ⟨E,hE⟩:∃ E,E=qKj d told memos dirty x:=⟨_,rfl⟩
 rw [<- hE]
 unfold qKj at hE
 generalize qQ4 d x=R at *
 obtain ⟨e,n,D⟩:=R
 simp only at hE
 have HE:=lH hE
 clear hE hd ht hme hi hB1 hK1 hK2 hK3 hdA hul
 obtain ⟨xk,xn,xd,xb,xm,xv⟩:=x
 simp only [chgV] at *
 go_enter Tryz.func49,Tryz.ntmps49
 go_upto_region 1 with fail
 rw [<- hw1]
 clear hw1
 have k0:=HK1.o.cell 0
 have c0:=HK2.o.cell 0
 have c1:=HK2.o.cell 1
 have c2:=HK2.o.cell 2
 have c3:=HK2.o.cell 3
 have c4:=HK2.o.cell 4
 have c5:=HK2.o.cell 5
 simp only [Zd,Ze] at k0 c0 c1 c2 c3 c4 c5
 by_cases he:e=0
 ·subst he
  go_upto_region 6 with (first
 | (go_at_call 90;(with_reducible refine cA.o.mono ?_);rintro e w2 ⟨b2,v2,rfl,u2,rfl,o2⟩;obtain ⟨ua,uc,rfl,_,_⟩:=Rf o2;have HB2:=lH b2;have HU2:=lH o2;have hk2:=HK1.o.bel b2;have e0:=hk2.cell 0;have e1:=hk2.cell 1;have e2:=hk2.cell 2;have e3:=hk2.cell 3;simp only [Zd,Ze] at e0 e1 e2 e3;clear b2 o2 hk2)
 | (go_at_call 84;(with_reducible refine (cO.o _ HB2.o).mono ?_);rintro e w3 ⟨b3,v3,rfl,dv,tv,mv,iv,rfl,o3,p3,q3,r3⟩;obtain ⟨dva,dvc,rfl,_,_⟩:=Rf o3;obtain ⟨tva,tvc,rfl,_,_⟩:=Rf p3;obtain ⟨mva,mvc,rfl,_,_⟩:=Rf q3;obtain ⟨iva,ivc,rfl,_,_⟩:=Rf r3.read;have HB3:=lH b3;have HT3:=lH p3;have HM3:=lH q3;have HI3:=lH r3;clear b3 o3 p3 q3 r3))
  have hK4:Blk (w3.alloc (.cells #[.slice ua D.length uc,.slice tva told.length tvc,.slice mva memos.length mvc,.slice iva dirty.length ivc] 70)) w3.heap.size [.slice ua D.length uc,.slice tva told.length tvc,.slice mva memos.length mvc,.slice iva dirty.length ivc] 70:=Blk.new' w3 _ rfl _ _
  have hB4:Bel w3 (w3.alloc (.cells #[.slice ua D.length uc,.slice tva told.length tvc,.slice mva memos.length mvc,.slice iva dirty.length ivc] 70)):=(Br w3).alloc _
  have HK4:=lH hK4
  have HB4:=lH hB4
  have hl4:(w3.alloc (.cells #[.slice ua D.length uc,.slice tva told.length tvc,.slice mva memos.length mvc,.slice iva dirty.length ivc] 70)).heap.size=w3.heap.size+1:=by simp
  have HL4:=lH hl4
  clear hK4 hB4 hl4
  generalize (w3.alloc (.cells #[.slice ua D.length uc,.slice tva told.length tvc,.slice mva memos.length mvc,.slice iva dirty.length ivc] 70))=w4 at *
  have n0:=HK4.o.cell 0
  have n1:=HK4.o.cell 1
  have n2:=HK4.o.cell 2
  have n3:=HK4.o.cell 3
  have f2:=HK4.o.frozen 2
  have f3:=HK4.o.frozen 3
  simp only [Zd,Ze] at n0 n1 n2 n3
  have hK2':=((HK2.o.bel HB2.o).bel HB3.o).bel HB4.o
  have d0:=hK2'.cell 0
  have d1:=hK2'.cell 1
  have d2:=hK2'.cell 2
  have d3:=hK2'.cell 3
  have d4:=hK2'.cell 4
  have d5:=hK2'.cell 5
  simp only [Zd,Ze] at d0 d1 d2 d3 d4 d5
  clear hK2'
  cases hp:qKk ⟨xk,xn,xd,xb,xm,xv⟩ with
  | false=>
    rw [hp] at cP
    have HP:=lH hp
    clear hp
    go_upto_region 11 with (go_at_call 50;(with_reducible refine (cP.o _).mono ?_);rintro e w5 ⟨rfl,b5⟩;have HB5:=lH b5;have hk5:=HK4.o.bel b5;have n2':=hk5.cell 2;have n3':=hk5.cell 3;have f2':=hk5.frozen 2;have f3':=hk5.frozen 3;simp only [Zd,Ze] at n2' n3';have HK5:=lH hk5;clear b5 hk5)
    have hK6:Blk ((w5.setCell ⟨w3.heap.size,2,none⟩ (.slice none 0 0)).setCell ⟨w3.heap.size,3,none⟩ (.slice none 0 0)) w3.heap.size [.slice ua D.length uc,.slice tva told.length tvc,.slice none 0 0,.slice none 0 0] 70:=((HK5.o.set 2 _).set 3 _)
    have hF6:FrE w3.heap.size w5 ((w5.setCell ⟨w3.heap.size,2,none⟩ (.slice none 0 0)).setCell ⟨w3.heap.size,3,none⟩ (.slice none 0 0)):=(((FrE.refl _ w5).set _).set _)
    have hb5:Bel w3 w5:=Bt HB4.o HB5.o
    have hB6:Bel w3 ((w5.setCell ⟨w3.heap.size,2,none⟩ (.slice none 0 0)).setCell ⟨w3.heap.size,3,none⟩ (.slice none 0 0)):=hF6.bel hb5 (Zb _)
    have HK6:=lH hK6
    have HB6:=lH hB6
    clear hK6 hF6 hb5 hB6 n2' n3' f2' f3'
    generalize ((w5.setCell ⟨w3.heap.size,2,none⟩ (.slice none 0 0)).setCell ⟨w3.heap.size,3,none⟩ (.slice none 0 0))=w6 at *
    have q0:=HK6.o.cell 0
    have q1:=HK6.o.cell 1
    have q2:=HK6.o.cell 2
    have q3:=HK6.o.cell 3
    have hR:=((HK3.o.bel HB2.o).bel HB3.o).bel HB6.o
    have m0:=hR.cell 0
    have m1:=hR.cell 1
    have m2:=hR.cell 2
    have m3:=hR.cell 3
    have mf0:=hR.frozen 0
    have mf1:=hR.frozen 1
    have mf2:=hR.frozen 2
    have mf3:=hR.frozen 3
    simp only [Zd,Ze] at q0 q1 q2 q3 m0 m1 m2 m3
    have HRZ:Hi (Blk ((((w6.setCell ⟨w.heap.size+2,0,none⟩ (.slice ua D.length uc)).setCell ⟨w.heap.size+2,1,none⟩ (.slice tva told.length tvc)).setCell ⟨w.heap.size+2,2,none⟩ (.slice none 0 0)).setCell ⟨w.heap.size+2,3,none⟩ (.slice none 0 0)) (w.heap.size+2) [.slice ua D.length uc,.slice tva told.length tvc,.slice none 0 0,.slice none 0 0] 70):=lH ((((hR.set 0 _).set 1 _).set 2 _).set 3 _)
    have HFZ:Hi (FrE (w.heap.size+2) w6 ((((w6.setCell ⟨w.heap.size+2,0,none⟩ (.slice ua D.length uc)).setCell ⟨w.heap.size+2,1,none⟩ (.slice tva told.length tvc)).setCell ⟨w.heap.size+2,2,none⟩ (.slice none 0 0)).setCell ⟨w.heap.size+2,3,none⟩ (.slice none 0 0))):=lH (((((FrE.refl _ w6).set _).set _).set _).set _)
    clear hR
    go_wp2
    generalize ((((w6.setCell ⟨w.heap.size+2,0,none⟩ (.slice ua D.length uc)).setCell ⟨w.heap.size+2,1,none⟩ (.slice tva told.length tvc)).setCell ⟨w.heap.size+2,2,none⟩ (.slice none 0 0)).setCell ⟨w.heap.size+2,3,none⟩ (.slice none 0 0))=wz at *
    obtain ⟨dd,hd1,hd2⟩:=qVf
    have S1:w.heap.size+2<w1.heap.size:=HK3.o.lt
    have S2:=HB2.o.size
    have S3:=HB3.o.size
    have S6:=HB6.o.size
    have S7:=HFZ.o.size
    have hBz:Bel w wz:=HFZ.o.bel (Bt HB1.o (Bt HB2.o (Bt HB3.o HB6.o))) (by omega)
    have hgo:∀ b,w1.heap.size<=b->b<w3.heap.size->wz.heap[b]?=w3.heap[b]?:=fun b h1 h2=>(HFZ.o.block b (by omega) (by omega)).trans (HB6.o.block b h2)
    have hDF:qJ4 (fun b=>w.heap.size<=b/\b<wz.heap.size) wz (.slice ua D.length uc) D:=(HU2.o.agree (fun b hb=>(hgo b hb.1 (by omega)).trans (HB3.o.block b hb.2))).mono (fun b hb=>⟨by omega,by omega⟩)
    have hTF:ItsK (fun b=>w.heap.size<=b/\b<wz.heap.size) k wz (.slice tva told.length tvc) told:=(HT3.o.agree (fun b hb=>hgo b (by omega) (by omega))).mono (fun b hb=>⟨by omega,by omega⟩)
    refine bodyPost_ret (qZ3 rfl _ _ (w.heap.size+2) _ _ _ dd rfl HRZ.o hd1 (by revert hd2;cases dd <;> intro h <;> exact h) (by kernel_rfl)) rfl ?_
    have hE:=HE.o
    rw [if_pos trivial,HP.o] at hE
    simp only [Bool.false_eq_true,if_false] at hE
    rw [hE]
    exact ⟨hBz,_,rfl,_,_,_,_,rfl,hDF,hTF,qQa.nil,qQa.nil⟩
  | true=>
    rw [hp] at cP
    have HP:=lH hp
    clear hp
    cases hc:dirty.contains xn with
    | true=>
      have HC:=lH hc
      have cC:Hi (∀ W,Bel w4 W->Calls Tryz.prog 91 #[.slice iva dirty.length ivc,.int .i64 xn] W (Rv (.bool true) W)):=lH (fun W hW=>by
       have hi:qKf w3.heap.size W (.slice iva dirty.length ivc) dirty:=qQa.later HI3.o.read qQc (Bt HB4.o hW) (Zb _)
       have:=qJf _ _ dirty xn W hi
       rw [hc] at this
       exact this)
      clear hc
      go_upto_region 11 with (first
 | (go_at_call 50;(with_reducible refine (cP.o _).mono ?_);rintro e w5 ⟨rfl,b5⟩;have HB5:=lH b5;have hk5:=HK4.o.bel b5;have n0':=hk5.cell 0;have n1':=hk5.cell 1;have n2':=hk5.cell 2;have n3':=hk5.cell 3;have hx5:=((HK2.o.bel HB2.o).bel HB3.o).bel (Bt HB4.o b5);have e1':=hx5.cell 1;simp only [Zd,Ze] at e1';clear hx5;simp only [Zd,Ze] at n0' n1' n2' n3';have HK5:=lH hk5;clear b5 hk5)
 | (go_at_call 91;(with_reducible refine (cC.o _ HB5.o).mono ?_);rintro e w7 ⟨rfl,rfl⟩))
      have HB6:=lH (Bt HB4.o HB5.o)
      have hR:=((HK3.o.bel HB2.o).bel HB3.o).bel HB6.o
      have m0:=hR.cell 0
      have m1:=hR.cell 1
      have m2:=hR.cell 2
      have m3:=hR.cell 3
      have mf0:=hR.frozen 0
      have mf1:=hR.frozen 1
      have mf2:=hR.frozen 2
      have mf3:=hR.frozen 3
      simp only [Zd,Ze] at m0 m1 m2 m3
      have HRZ:Hi (Blk ((((w5.setCell ⟨w.heap.size+2,0,none⟩ (.slice ua D.length uc)).setCell ⟨w.heap.size+2,1,none⟩ (.slice tva told.length tvc)).setCell ⟨w.heap.size+2,2,none⟩ (.slice mva memos.length mvc)).setCell ⟨w.heap.size+2,3,none⟩ (.slice iva dirty.length ivc)) (w.heap.size+2) [.slice ua D.length uc,.slice tva told.length tvc,.slice mva memos.length mvc,.slice iva dirty.length ivc] 70):=lH ((((hR.set 0 _).set 1 _).set 2 _).set 3 _)
      have HFZ:Hi (FrE (w.heap.size+2) w5 ((((w5.setCell ⟨w.heap.size+2,0,none⟩ (.slice ua D.length uc)).setCell ⟨w.heap.size+2,1,none⟩ (.slice tva told.length tvc)).setCell ⟨w.heap.size+2,2,none⟩ (.slice mva memos.length mvc)).setCell ⟨w.heap.size+2,3,none⟩ (.slice iva dirty.length ivc))):=lH (((((FrE.refl _ w5).set _).set _).set _).set _)
      clear hR
      go_wp2
      generalize ((((w5.setCell ⟨w.heap.size+2,0,none⟩ (.slice ua D.length uc)).setCell ⟨w.heap.size+2,1,none⟩ (.slice tva told.length tvc)).setCell ⟨w.heap.size+2,2,none⟩ (.slice mva memos.length mvc)).setCell ⟨w.heap.size+2,3,none⟩ (.slice iva dirty.length ivc))=wz at *
      obtain ⟨dd,hd1,hd2⟩:=qVf
      have S1:w.heap.size+2<w1.heap.size:=HK3.o.lt
      have S2:=HB2.o.size
      have S3:=HB3.o.size
      have S6:=HB6.o.size
      have S7:=HFZ.o.size
      have hBz:Bel w wz:=HFZ.o.bel (Bt HB1.o (Bt HB2.o (Bt HB3.o HB6.o))) (by omega)
      have hgo:∀ b,w1.heap.size<=b->b<w3.heap.size->wz.heap[b]?=w3.heap[b]?:=fun b h1 h2=>(HFZ.o.block b (by omega) (by omega)).trans (HB6.o.block b h2)
      have hDF:qJ4 (fun b=>w.heap.size<=b/\b<wz.heap.size) wz (.slice ua D.length uc) D:=(HU2.o.agree (fun b hb=>(hgo b hb.1 (by omega)).trans (HB3.o.block b hb.2))).mono (fun b hb=>⟨by omega,by omega⟩)
      have hTF:ItsK (fun b=>w.heap.size<=b/\b<wz.heap.size) k wz (.slice tva told.length tvc) told:=(HT3.o.agree (fun b hb=>hgo b (by omega) (by omega))).mono (fun b hb=>⟨by omega,by omega⟩)
      have hMF:qJ3 (fun b=>w.heap.size<=b/\b<wz.heap.size) wz (.slice mva memos.length mvc) memos:=(HM3.o.agree (fun b hb=>hgo b (by omega) (by omega))).mono (fun b hb=>⟨by omega,by omega⟩)
      have hIF:qQa 1 qQf (fun b=>w.heap.size<=b/\b<wz.heap.size) wz (.slice iva dirty.length ivc) dirty:=(HI3.o.agree (w':=wz) (fun b hb=>by have q:=HI3.o.lt b hb;exact hgo b (by omega) (by omega)) (fun _ _ _ h=>h)).row.mono (fun b hb=>⟨by have:=hb.1;omega,hb.2.1⟩) (fun _ _ _ h=>h)
      refine bodyPost_ret (qZ3 rfl _ _ (w.heap.size+2) _ _ _ dd rfl HRZ.o hd1 (by revert hd2;cases dd <;> intro h <;> exact h) (by kernel_rfl)) rfl ?_
      have hE:=HE.o
      have hdF:qWa dirty xn=dirty:=by unfold qWa;rw [if_pos HC.o]
      rw [if_pos trivial,HP.o] at hE
      simp only [if_true,hdF] at hE
      rw [hE]
      exact ⟨hBz,_,rfl,_,_,_,_,rfl,hDF,hTF,hMF,hIF⟩
    | false=>
      have HC:=lH hc
      have cC:Hi (∀ W,Bel w4 W->Calls Tryz.prog 91 #[.slice iva dirty.length ivc,.int .i64 xn] W (Rv (.bool false) W)):=lH (fun W hW=>by
       have hi:qKf w3.heap.size W (.slice iva dirty.length ivc) dirty:=qQa.later HI3.o.read qQc (Bt HB4.o hW) (Zb _)
       have:=qJf _ _ dirty xn W hi
       rw [hc] at this
       exact this)
      clear hc
      go_upto_region 9 with (first
 | (go_at_call 50;(with_reducible refine (cP.o _).mono ?_);rintro e w5 ⟨rfl,b5⟩;have HB5:=lH b5;have hk5:=HK4.o.bel b5;have n0':=hk5.cell 0;have n1':=hk5.cell 1;have n2':=hk5.cell 2;have n3':=hk5.cell 3;have hx5:=((HK2.o.bel HB2.o).bel HB3.o).bel (Bt HB4.o b5);have e1':=hx5.cell 1;simp only [Zd,Ze] at e1';clear hx5;simp only [Zd,Ze] at n0' n1' n2' n3';have HK5:=lH hk5;clear b5 hk5)
 | (go_at_call 91;(with_reducible refine (cC.o _ HB5.o).mono ?_);rintro e w7 ⟨rfl,rfl⟩))
      have HB7:=lH (Bt HB4.o HB5.o)
      have HI7:Hi (qQb 1 qQf w2.heap.size 3 w5 (.slice iva dirty.length ivc) dirty):=lH (HI3.o.agree (fun b hb=>HB7.o.block b (HI3.o.lt b hb).2) (fun _ _ _ h=>h))
      have S37:w3.heap.size<w5.heap.size:=HK5.o.lt
      have S23:w2.heap.size<=w3.heap.size:=HB3.o.size
      have S27:w2.heap.size<=w5.heap.size:=by omega
      have hz8:(dirty++[xn]).length=dirty.length+1:=by simp
      go_upto_region 10 with (at_builtin;(refine qYh rfl _ _ _ rfl qJm (by decide) (rd:=qQf) (v:=.slice iva dirty.length ivc) ?hst ?hone (base:=w2.heap.size) rfl HI7.o rfl ?hgs xn ?hC ?hby ?hmx S27 ?_;(case hst=>exact fun _ _ _ _ h=>h);(case hone=>exact qKy);(case hgs=>rfl);(case hC=>exact ⟨rfl,rfl⟩);(case hby=>omega);(case hmx=>omega);intro v8 w8 o8 g8 f8;obtain ⟨va8,vc8,rfl,v81,v82⟩:=Rf o8.read;rw [hz8] at o8 f8;have HO8:=lH o8;have HG8:=lH g8;have HF8:=lH f8;have hk8:=HK5.o.of (g8.block w3.heap.size S37 (fun e=>by have:=(HI3.o.lt _ e.symm).2;omega));have n38:=hk8.cell 3;have f38:=hk8.frozen 3;simp only [Zd,Ze] at n38;have HK8:=lH hk8;clear o8 g8 f8 hk8))
      have hq8:∀ b,(Value.slice va8 (dirty.length+1) vc8).ownBlock=some b->b≠w3.heap.size/\((Value.slice iva dirty.length ivc).ownBlock=some b∨w5.heap.size<=b):=fun b hb=>by
       rcases HF8.o with e | ⟨q,e,hq⟩
       ·rw [e] at hb
        have:=(HI3.o.lt b hb).2
        exact ⟨by omega,.inl hb⟩
       ·rw [e] at hb
        cases hb
        exact ⟨by omega,.inr hq⟩
      have HQ8:=lH hq8
      have hk9:=HK8.o.set 3 (.slice va8 (dirty.length+1) vc8)
      have ho9:qQb 1 qQf w2.heap.size 3 (w8.setCell ⟨w3.heap.size,3,none⟩ (.slice va8 (dirty.length+1) vc8)) (.slice va8 (dirty.length+1) vc8) (dirty++[xn]):=HO8.o.agree (fun b hb=>Below.heap_setCell w8 _ _ b (hq8 b hb).1) (fun _ _ _ h=>h)
      have hkp9:Kp (fun b=>b<w3.heap.size/\(Value.slice iva dirty.length ivc).ownBlock≠some b) w3 (w8.setCell ⟨w3.heap.size,3,none⟩ (.slice va8 (dirty.length+1) vc8)):=((Kp.of_bel HB7.o).trans (Kp.of_grown HG8.o (fun b _ hK e=>hK.2 e.symm)) (fun _ _ h=>h)).trans (K':=fun b=>b<w3.heap.size/\(Value.slice iva dirty.length ivc).ownBlock≠some b) ⟨rfl,rfl,rfl,Nat.le_of_eq (World.size_setCell ..).symm,fun b _ hK=>Below.heap_setCell w8 _ _ b (by show b≠w3.heap.size;have:=hK.1;omega)⟩ (fun _ _ h=>h)
      have S79:w5.heap.size<=(w8.setCell ⟨w3.heap.size,3,none⟩ (.slice va8 (dirty.length+1) vc8)).heap.size:=by rw [World.size_setCell];exact HG8.o.size
      have HK9:=lH hk9
      have HO9:=lH ho9
      have HKP9:=lH hkp9
      have HS79:=lH S79
      clear hk9 ho9 hkp9 hq8 S79 n38 f38
      generalize (w8.setCell ⟨w3.heap.size,3,none⟩ (.slice va8 (dirty.length+1) vc8))=w9 at *
      have n39:=HK9.o.cell 3
      simp only [Zf,Zg,Zd,Ze] at n39
      have cS:=lH (qW2 HO9.o (by simp) (by rw [hz8];omega))
      go_upto_region 11 with (go_at_call 63;(with_reducible refine cS.o.mono ?_);rintro e w10 ⟨rfl,o10,g10⟩;have HO10:=lH o10;have HG10:=lH g10;have hk10:=HK9.o.of (g10.block w3.heap.size (by have:=HS79.o;omega) (fun e=>(HQ8.o _ e.symm).1 rfl));have n0':=hk10.cell 0;have n1':=hk10.cell 1;have n2':=hk10.cell 2;have n3':=hk10.cell 3;simp only [Zf,Zg,Zd,Ze] at n0' n1' n2' n3';clear o10 g10 hk10)
      have hkp10:=HKP9.o.trans (K':=fun b=>b<w3.heap.size/\(Value.slice iva dirty.length ivc).ownBlock≠some b) (Kp.of_grown HG10.o (fun b _ hK e=>by
       rcases (HQ8.o b e.symm).2 with h | h
       ·exact hK.2 h
       ·have:=hK.1;omega)) (fun _ _ h=>h)
      have S1:w.heap.size+2<w1.heap.size:=HK3.o.lt
      have S2:=HB2.o.size
      have hiv:∀ b,b<w2.heap.size->(Value.slice iva dirty.length ivc).ownBlock≠some b:=fun b hb e=>by have:=(HI3.o.lt b e).1;omega
      have hR:=((HK3.o.bel HB2.o).bel HB3.o).of (hkp10.block (w.heap.size+2) (by omega) ⟨by omega,hiv _ (by omega)⟩)
      have HKP10:=lH hkp10
      have HIV:=lH hiv
      clear hkp10 hiv
      have m0:=hR.cell 0
      have m1:=hR.cell 1
      have m2:=hR.cell 2
      have m3:=hR.cell 3
      have mf0:=hR.frozen 0
      have mf1:=hR.frozen 1
      have mf2:=hR.frozen 2
      have mf3:=hR.frozen 3
      simp only [Zd,Ze] at m0 m1 m2 m3
      have HRZ:Hi (Blk ((((w10.setCell ⟨w.heap.size+2,0,none⟩ (.slice ua D.length uc)).setCell ⟨w.heap.size+2,1,none⟩ (.slice tva told.length tvc)).setCell ⟨w.heap.size+2,2,none⟩ (.slice mva memos.length mvc)).setCell ⟨w.heap.size+2,3,none⟩ (.slice va8 (dirty.length+1) vc8)) (w.heap.size+2) [.slice ua D.length uc,.slice tva told.length tvc,.slice mva memos.length mvc,.slice va8 (dirty.length+1) vc8] 70):=lH ((((hR.set 0 _).set 1 _).set 2 _).set 3 _)
      have HFZ:Hi (FrE (w.heap.size+2) w10 ((((w10.setCell ⟨w.heap.size+2,0,none⟩ (.slice ua D.length uc)).setCell ⟨w.heap.size+2,1,none⟩ (.slice tva told.length tvc)).setCell ⟨w.heap.size+2,2,none⟩ (.slice mva memos.length mvc)).setCell ⟨w.heap.size+2,3,none⟩ (.slice va8 (dirty.length+1) vc8))):=lH (((((FrE.refl _ w10).set _).set _).set _).set _)
      clear hR
      go_wp2
      generalize ((((w10.setCell ⟨w.heap.size+2,0,none⟩ (.slice ua D.length uc)).setCell ⟨w.heap.size+2,1,none⟩ (.slice tva told.length tvc)).setCell ⟨w.heap.size+2,2,none⟩ (.slice mva memos.length mvc)).setCell ⟨w.heap.size+2,3,none⟩ (.slice va8 (dirty.length+1) vc8))=wz at *
      obtain ⟨dd,hd1,hd2⟩:=qVf
      have S6:=HKP10.o.size
      have S7:=HFZ.o.size
      have hB10:Bel w1 w10:=⟨HKP10.o.os.trans (Bt HB2.o HB3.o).os,HKP10.o.tape.trans (Bt HB2.o HB3.o).tape,HKP10.o.output.trans (Bt HB2.o HB3.o).output,by omega,fun b hb=>(HKP10.o.block b (by omega) ⟨by omega,HIV.o b (by omega)⟩).trans ((Bt HB2.o HB3.o).block b hb)⟩
      have hBz:Bel w wz:=HFZ.o.bel (Bt HB1.o hB10) (by omega)
      have hgo:∀ b,w1.heap.size<=b->b<w3.heap.size->(Value.slice iva dirty.length ivc).ownBlock≠some b->wz.heap[b]?=w3.heap[b]?:=fun b h1 h2 h3=>(HFZ.o.block b (by omega) (by omega)).trans (HKP10.o.block b h2 ⟨h2,h3⟩)
      have hDF:qJ4 (fun b=>w.heap.size<=b/\b<wz.heap.size) wz (.slice ua D.length uc) D:=(HU2.o.agree (fun b hb=>(hgo b hb.1 (by omega) (HIV.o b hb.2)).trans (HB3.o.block b hb.2))).mono (fun b hb=>⟨by omega,by omega⟩)
      have hTF:ItsK (fun b=>w.heap.size<=b/\b<wz.heap.size) k wz (.slice tva told.length tvc) told:=(HT3.o.agree (fun b hb=>hgo b (by omega) (by omega) hb.2)).mono (fun b hb=>⟨by omega,by omega⟩)
      have hMF:qJ3 (fun b=>w.heap.size<=b/\b<wz.heap.size) wz (.slice mva memos.length mvc) memos:=(HM3.o.agree (fun b hb=>hgo b (by omega) (by omega) hb.2)).mono (fun b hb=>⟨by omega,by omega⟩)
      have hIF:qQa 1 qQf (fun b=>w.heap.size<=b/\b<wz.heap.size) wz (.slice va8 (dirty.length+1) vc8) ((dirty++[xn]).mergeSort leI):=(HO10.o.agree (w':=wz) (fun b hb=>by have q:=HO10.o.lt b hb;exact HFZ.o.block b q.2 (by omega)) (fun _ _ _ h=>h)).row.mono (fun b hb=>⟨by have:=hb.1;omega,hb.2.1⟩) (fun _ _ _ h=>h)
      refine bodyPost_ret (qZ3 rfl _ _ (w.heap.size+2) _ _ _ dd rfl HRZ.o hd1 (by revert hd2;cases dd <;> intro h <;> exact h) (by kernel_rfl)) rfl ?_
      have hE:=HE.o
      have hdF:qWa dirty xn=(dirty++[xn]).mergeSort leI:=by unfold qWa;rw [if_neg (by rw [HC.o];simp)]
      rw [if_pos trivial,HP.o] at hE
      simp only [if_true,hdF] at hE
      rw [hE]
      exact ⟨hBz,_,rfl,_,_,_,_,rfl,hDF,hTF,hMF,hIF⟩
 ·have hk0:Hi (e≠0):=lH he
  go_upto_region 3 with (go_at_call 90;(with_reducible refine cA.o.mono ?_);rintro e w2 ⟨b2,v2,rfl,u2,rfl,o2⟩;obtain ⟨ua,uc,rfl,_,_⟩:=Rf o2;have HB2:=lH b2;clear b2 o2)
  have hR:=HK3.o.bel HB2.o
  have m0:=hR.cell 0
  have m1:=hR.cell 1
  have m2:=hR.cell 2
  have m3:=hR.cell 3
  have mf0:=hR.frozen 0
  have mf1:=hR.frozen 1
  have mf2:=hR.frozen 2
  have mf3:=hR.frozen 3
  simp only [Zd,Ze] at m0 m1 m2 m3
  have HRZ:Hi (Blk ((((w2.setCell ⟨w.heap.size+2,0,none⟩ (.slice none 0 0)).setCell ⟨w.heap.size+2,1,none⟩ (.slice none 0 0)).setCell ⟨w.heap.size+2,2,none⟩ (.slice none 0 0)).setCell ⟨w.heap.size+2,3,none⟩ (.slice none 0 0)) (w.heap.size+2) [.slice none 0 0,.slice none 0 0,.slice none 0 0,.slice none 0 0] 70):=lH ((((hR.set 0 _).set 1 _).set 2 _).set 3 _)
  have HFZ:Hi (FrE (w.heap.size+2) w2 ((((w2.setCell ⟨w.heap.size+2,0,none⟩ (.slice none 0 0)).setCell ⟨w.heap.size+2,1,none⟩ (.slice none 0 0)).setCell ⟨w.heap.size+2,2,none⟩ (.slice none 0 0)).setCell ⟨w.heap.size+2,3,none⟩ (.slice none 0 0))):=lH (((((FrE.refl _ w2).set _).set _).set _).set _)
  clear hR
  go_wp2
  generalize ((((w2.setCell ⟨w.heap.size+2,0,none⟩ (.slice none 0 0)).setCell ⟨w.heap.size+2,1,none⟩ (.slice none 0 0)).setCell ⟨w.heap.size+2,2,none⟩ (.slice none 0 0)).setCell ⟨w.heap.size+2,3,none⟩ (.slice none 0 0))=wz at *
  obtain ⟨dd,hd1,hd2⟩:=qVf
  have hBz:Bel w wz:=HFZ.o.bel (Bt HB1.o HB2.o) (by omega)
  refine bodyPost_ret (qZ3 rfl _ _ (w.heap.size+2) _ _ _ dd rfl HRZ.o hd1 (by revert hd2;cases dd <;> intro h <;> exact h) (by kernel_rfl)) rfl ?_
  have hE:=HE.o
  rw [if_neg hk0.o] at hE
  rw [hE]
  exact ⟨hBz,_,rfl,_,_,_,_,rfl,qQa.nil,qQa.nil,qQa.nil,qQa.nil⟩
end Go.Proofs.YtklbmkaomojciaaGreat
