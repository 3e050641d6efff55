/- What is plain makes no other nodes be shown: walked. -/
import Derived.Test.YtklbmkaomojciaaGreatEngPlain
set_option maxRecDepth 100000
set_option maxHeartbeats 8000000
namespace Go.Proofs.YtklbmkaomojciaaGreat
open Go.RowKit
theorem qFb (cA0:∀ W,Calls Tryz.prog 45 #[] W (Rb (.bool true) W)) (m:Nat) (v:Value) (l:List Chg) (x:Chg) (w:World) (hv:qHk m w v l) (hm:m<=w.heap.size) (hl:∀ x∈l,x.name.length<=9223372036854775807/\x.value.length<=9223372036854775807)
 (hn:x.name.length<=9223372036854775807) (hx:x.value.length<=9223372036854775807) :
 Calls Tryz.prog 14 #[v,chgV x] w (Rb (.bool true) w):=by
 have cA:=lH cA0
 have cB:Hi (∀ W,Bel w W->Calls Tryz.prog 16 #[v] W (Rn W fun w' y=>qQq w'.heap.size w' y (qZq l))):=lH (fun W h=>qV5 m v l W (qQb.later hv qHi h hm) (Za hm h.size) hl)
 have g:=qWx l
 have cX:Hi (∀ W u,qQq W.heap.size W u (qZq l)->Calls Tryz.prog 22 #[u,chgV x] W (qQc W (qQ1 (qZq l) x))):=lH (fun W u h=>qKu _ u _ x W h (Zb _) g hn hx)
 have cP:Hi (∀ W,Calls Tryz.prog 50 #[chgV x] W (Rb (.bool (qJh x)) W)):=lH (fun W=>qX9 x W)
 have HS:Hi ((qQ1 (qZq l) x).1=0->qJh x=true->SameBut (qZq l) (qQ1 (qZq l) x).2.2 x.node):=lH (fun h1 h2=>(qD0 g h1 h2).1)
 have hdl:Hi ((qZq l).length<=1000):=lH (by have:=g.len;omega)
 obtain ⟨va,vc,rfl,v1,v2⟩:=Rf hv
 clear hv g hl hn hx cA0
 generalize qZq l=d at *
 generalize hr:qQ1 d x=r at *
 obtain ⟨err,node,y⟩:=r
 simp only at HS
 have HN:Hi (SameBut d y x.node->SameBut d y x.node):=lH (fun h=>h)
 generalize hp:qJh x=p at *
 clear hr hp
 obtain ⟨w1,hw1⟩:∃ w1,w1=w.alloc (.cells #[.int .i64 x.kind,.int .i64 x.node,.int .i64 x.dest,.int .i64 x.before,.string ⟨x.name.toArray⟩,.string ⟨x.value.toArray⟩] 40):=⟨_,rfl⟩
 have hB1:Bel w w1:=by rw [hw1];exact (Br w).alloc _
 have hK1:Blk w1 w.heap.size [.int .i64 x.kind,.int .i64 x.node,.int .i64 x.dest,.int .i64 x.before,.string ⟨x.name.toArray⟩,.string ⟨x.value.toArray⟩] 40:=by rw [hw1];exact Blk.new' w _ rfl _ _
 have HB1:=lH hB1
 have HK1:=lH hK1
 clear hB1 hK1 HN
 unfold chgV at *
 go_enter Tryz.func14,Tryz.ntmps14
 go_upto_region 1 with fail
 rw [<- hw1]
 clear hw1
 go_upto_region 4 with (first
 | (go_at_call 45;(with_reducible refine (cA.o _).mono ?_);rintro e w2 ⟨rfl,b2⟩;have HB2:=lH (Bt HB1.o b2);have HK2:=lH (HK1.o.bel b2);clear b2)
 | (go_at_call 16;(with_reducible refine (cB.o _ HB2.o).mono ?_);rintro e w3 ⟨b3,u1,rfl,o1⟩;obtain ⟨ya,yc,rfl,_,_⟩:=Rf o1;have HD:=lH o1;have HB3:=lH (Bt HB2.o b3);have HK3:=lH (HK2.o.bel b3);clear b3 o1))
 have cX':=lH (cX.o _ _ HD.o)
 have c0:=HK3.o.cell 0
 have c1:=HK3.o.cell 1
 have c2:=HK3.o.cell 2
 have c3:=HK3.o.cell 3
 have c4:=HK3.o.cell 4
 have c5:=HK3.o.cell 5
 simp only [Zd,Ze] at c0 c1 c2 c3 c4 c5
 clear cX cB cA HB1 HB2 HK1 HK2
 go_upto_region 5 with (go_at_call 22;(with_reducible refine cX'.o.mono ?_);rintro e w5 ⟨b5,y5,rfl,u5,rfl,o5⟩;obtain ⟨za,zc,rfl,_,_⟩:=Rf o5;have HB5:=lH (Bt HB3.o b5);have HK5:=lH (HK3.o.bel b5);have HD5:=lH (HD.o.up b5 (Zb _));have HY5:=lH o5;clear b5 o5)
 clear c0 c1 c2 c3 c4 c5 cX'
 have c0:=HK5.o.cell 0
 have c1:=HK5.o.cell 1
 have c2:=HK5.o.cell 2
 have c3:=HK5.o.cell 3
 have c4:=HK5.o.cell 4
 have c5:=HK5.o.cell 5
 simp only [Zd,Ze] at c0 c1 c2 c3 c4 c5
 clear HB3 HK3 HD
 by_cases he:err=0
 ·subst he
  cases p with
  | false=>
    go_wp2_with (go_at_call 50;(refine (cP.o _).mono ?_);rintro e w7 ⟨rfl,b7⟩;have HB7:=lH (Bt HB5.o b7);clear b7)
    go_ret
    exact ⟨rfl,HB7.o⟩
  | true=>
    have hs:=HS.o rfl rfl
    have hyl:=hs.len
    have HSB:=lH hs
    clear hs HS
    go_upto_region 7 with (go_at_call 50;(refine (cP.o _).mono ?_);rintro e w7 ⟨rfl,b7⟩;have HB7:=lH (Bt HB5.o b7);have HD7:=lH (HD5.o.up b7 (Zb _));have HY7:=lH (HY5.o.up b7 (Zb _));clear b7)
    clear c0 c1 c2 c3 c4 c5 cP HB5 HK5 HD5 HY5
    try rw [hyl] at HY7
    try rw [hyl]
    go_upto_region 10 with fail
    go_loopw [35,9] (fun z _ wr=>∃ j:Nat,j<=d.length/\z=.int .i64 j/\Bel w7 wr) (fun z _ _=>d.length - (intOf z).toNat)
    case atStart=>exact ⟨0,by omega,rfl,Br _⟩
    case round=>
     obtain ⟨j,hj,rfl,hB⟩:=hrel
     have HB:=lH hB
     have HBr:=lH (Bt HB7.o hB)
     clear hB
     by_cases hlt:j<d.length
     ·have hyj:j<y.length:=by rw [hyl];exact hlt
      obtain ⟨b1,o1,k1,av1,kv1,sv1,e1,_,_,hb1,N1⟩:=(HD7.o.up HB.o (Zb _)).node j hlt
      obtain ⟨b2,o2,k2,av2,kv2,sv2,e2,_,_,hb2,N2⟩:=(HY7.o.up HB.o (Zb _)).node j hyj
      have q1:y[j].tag=d[j].tag:=by have:=HSB.o.tag (j:Int);rwa [qQv hyj,qQv hlt] at this
      have q2:y[j].up=d[j].up:=by have:=HSB.o.up (j:Int);rwa [qQv hyj,qQv hlt] at this
      have q3:y[j].kids=d[j].kids:=by have:=HSB.o.kids (j:Int);rwa [qQv hyj,qQv hlt] at this
      have q4:y[j].shadow=d[j].shadow:=by have:=HSB.o.shadow (j:Int);rwa [qQv hyj,qQv hlt] at this
      simp at e1 e2
      obtain ⟨rfl,rfl⟩:=e1
      obtain ⟨rfl,e3,rfl⟩:=e2
      clear e3
      have t1:=N1.tag
      have u1:=N1.up
      have p1:=N1.kids
      have s1:=N1.shadow
      have K1:=N1.kidsAt
      have S1:=N1.shadowAt
      have t2:=N2.tag
      have u2:=N2.up
      have p2:=N2.kids
      have s2:=N2.shadow
      have K2:=N2.kidsAt
      have S2:=N2.shadowAt
      rw [q1] at t2
      rw [q2] at u2
      rw [q3] at K2
      rw [q4] at S2
      clear N1 N2 q1 q2 q3 q4
      generalize d[j].tag=tg at *
      generalize d[j].up=up at *
      generalize d[j].kids=kd at *
      generalize d[j].shadow=sh at *
      have cK:Hi (∀ W,Bel wr W->Calls Tryz.prog 33 #[kv2,kv1] W (Rb (.bool true) W)):=lH (fun W h=>by
       have:=qJm wr.heap.size kv2 kv1 kd kd W (K2.later qQd h (Zb _)) (K1.later qQd h (Zb _)) h.size
       rwa [decide_eq_true rfl] at this)
      have cS:Hi (∀ W,Bel wr W->Calls Tryz.prog 33 #[sv2,sv1] W (Rb (.bool true) W)):=lH (fun W h=>by
       have:=qJm wr.heap.size sv2 sv1 sh sh W (S2.later qQd h (Zb _)) (S1.later qQd h (Zb _)) h.size
       rwa [decide_eq_true rfl] at this)
      obtain ⟨ka1,kc1,rfl,_,_⟩:=Rf K1
      obtain ⟨ka2,kc2,rfl,_,_⟩:=Rf K2
      obtain ⟨sa1,sc1,rfl,_,_⟩:=Rf S1
      obtain ⟨sa2,sc2,rfl,_,_⟩:=Rf S2
      have HKE:Hi (∀ W,Bel wr W->W.cell? ⟨b1,o1+j*9+1,none⟩=some (.string ⟨tg.toArray⟩)/\W.cell? ⟨b1,o1+j*9+4,none⟩=some (.int .i64 up)/\W.cell? ⟨b1,o1+j*9+5,none⟩=some (.slice ka1 kd.length kc1)/\W.cell? ⟨b1,o1+j*9+7,none⟩=some (.slice sa1 sh.length sc1) /\
       W.cell? ⟨b2,o2+j*9+1,none⟩=some (.string ⟨tg.toArray⟩)/\W.cell? ⟨b2,o2+j*9+4,none⟩=some (.int .i64 up)/\W.cell? ⟨b2,o2+j*9+5,none⟩=some (.slice ka2 kd.length kc2)/\W.cell? ⟨b2,o2+j*9+7,none⟩=some (.slice sa2 sh.length sc2)):=lH (fun W h=>
       ⟨(Bel.cells h b1 _ hb1).trans t1,(Bel.cells h b1 _ hb1).trans u1,(Bel.cells h b1 _ hb1).trans p1,(Bel.cells h b1 _ hb1).trans s1,(Bel.cells h b2 _ hb2).trans t2,(Bel.cells h b2 _ hb2).trans u2,(Bel.cells h b2 _ hb2).trans p2,(Bel.cells h b2 _ hb2).trans s2⟩)
      clear t1 u1 p1 s1 t2 u2 p2 s2 K1 K2 S1 S2 HD7 HY7 HSB hb1 hb2
      have ei:∀ b:Int,(b != b)=false:=fun b=>by simp
      go_wp2_with fail
      refine qDp [0,1,2,3,4,5,6,7,8,9,10,11,12,13,14,15,16,17,18,19,20,21,22,23,24,25,26,27,28,29,30,31,32,33,34,35,36,37,38,39,40,41,42,43,44,45,46,47,48,49,50,51] [] (fun w'=>Bel wr w') (by kernel_rfl) (by kernel_rfl) (Br wr).drew ?_
      simp only [pickL,List.filterMap_cons,List.filterMap_nil,Zd,Ze]
      iterate 35 (refine DetL.cons (v:=?_) (fun _=>Says.plain ?_ ?_) ?_;rotate_left;rfl;(intro w' hS;obtain ⟨r0,r1,r2,r3,r4,r5,r6,r7⟩:=HKE.o w' hS;clear hS;go_simp;with_reducible rfl);simp only [Act.put,Zh,Zf,Zg])
      (refine DetL.cons (v:=?_) (fun _=>Says.call (f:=?_) (args:=?_) ?_ ?_ ?_) ?_;rotate_left 3;rfl;(intro w';go_simp;constructor <;> with_reducible rfl);(intro w' hS;refine Calls.mono (cK.o _ hS) ?_;rintro e w'' ⟨rfl,hb⟩;refine ⟨?_,Bt hS hb⟩;with_reducible rfl);simp only [Act.put,Zh,Zf,Zg])
      iterate 13 (refine DetL.cons (v:=?_) (fun _=>Says.plain ?_ ?_) ?_;rotate_left;rfl;(intro w' hS;obtain ⟨r0,r1,r2,r3,r4,r5,r6,r7⟩:=HKE.o w' hS;clear hS;go_simp;with_reducible rfl);simp only [Act.put,Zh,Zf,Zg])
      (refine DetL.cons (v:=?_) (fun _=>Says.call (f:=?_) (args:=?_) ?_ ?_ ?_) ?_;rotate_left 3;rfl;(intro w';go_simp;constructor <;> with_reducible rfl);(intro w' hS;refine Calls.mono (cS.o _ hS) ?_;rintro e w'' ⟨rfl,hb⟩;refine ⟨?_,Bt hS hb⟩;with_reducible rfl);simp only [Act.put,Zh,Zf,Zg])
      iterate 2 (refine DetL.cons (v:=?_) (fun _=>Says.plain ?_ ?_) ?_;rotate_left;rfl;(intro w' hS;obtain ⟨r0,r1,r2,r3,r4,r5,r6,r7⟩:=HKE.o w' hS;clear hS;go_simp;with_reducible rfl);simp only [Act.put,Zh,Zf,Zg])
      refine DetL.nil (fun w8 hS8=>?_)
      have HB8:=lH hS8
      clear hS8
      go_wp2_with fail
      go_roundw
      case rel=>exact ⟨j+1,by omega,by go_num,Bt HB.o HB8.o⟩
      case measure=>simp [intOf];omega
     ·have hje:j=d.length:=by omega
      clear HD7 HY7 HSB
      go_wp2
      go_ret
      exact ⟨rfl,HBr.o⟩
 ·have he':(err != 0)=true:=by simpa using he
  go_wp2_with fail
  go_ret
  exact ⟨rfl,HB5.o⟩
end Go.Proofs.YtklbmkaomojciaaGreat
