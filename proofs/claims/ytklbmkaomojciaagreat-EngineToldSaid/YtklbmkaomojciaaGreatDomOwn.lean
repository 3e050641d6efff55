/- dom.New and dom.Own: a document in rows of its own. -/
import Derived.Test.YtklbmkaomojciaaGreatOwnRow
set_option maxRecDepth 100000
set_option maxHeartbeats 4000000
namespace Go.Proofs.YtklbmkaomojciaaGreat
open Go.RowKit
theorem qGc {P:Program} {w:World} {ops:Array Oper} {rest:List Oper} {o:Oper} {a:Act} {Q:Exit->Act->World->Prop} (hg:o.guard=none)
 (s x:Operand) (t:TypeId) (ho:o.op=.call { callee:=.builtin .append,args:=#[s,x],argTypes:=#[t,t] })
 {e:TypeId} {sz bytes:Nat} (S:SlT P t e sz bytes) (hsz:0<sz) {α:Type} {rd:World->List Value->α->Prop} {v:Value} (hst:∀ w' cs y,w.grownBy w' v.ownBlock->rd w cs y->rd w' cs y) (h1c:∀ w cs y,rd w cs y->∀ u∈cs,u.oneCell'=true)
 {base:Nat} {l:List α} (hs:a.eval s=v) (hown:qQb sz rd base e w v l) {C:Array Value} {e':TypeId} {g:Nat} (hx:a.eval x=.slice (some ⟨g,0,none⟩) 1 1) (hgs:g=w.heap.size) (y:α)
 (hC:C.size=sz/\rd w C.toList y) (hbytes:(l.length+1)*bytes<=140737488355328) (hmax:l.length+1<=9223372036854775807) (hbase:base<=w.heap.size)
 (h:∀ v' w',qQb sz rd base e w' v' (l++[y])->w.grownBy w' v.ownBlock->qZe w v v'->wpList P ops Q rest (a.put o.dst v') w'):wpList P ops Q (o::rest) a (w.alloc (.cells C e')):=by
 subst hgs
 have hal:∀ cs y',rd w cs y'->rd (w.alloc (.cells C e')) cs y':=fun cs y' h=>hst _ _ _ (World.grownBy_alloc w _ _) h
 have hrow:=qJs (rd:=rd) (sz:=sz) w C.toList e' y (by simpa using hC.1) (by simp only [Array.toArray_toList];exact hal _ _ hC.2)
 simp only [Array.toArray_toList] at hrow
 have hown2:qQb sz rd base e (w.alloc (.cells C e')) v l:=hown.agree (fun b hb=>Below.heap_alloc w _ b (hown.lt b hb).2) (fun _ _ _ hr=>hal _ _ hr)
 obtain ⟨rd2,hrd2⟩:∃ rd2:World->List Value->α->Prop,rd2=fun W cs y'=>rd w cs y'/\rd W cs y':=⟨_,rfl⟩
 have up:∀ {W V m},qQb sz rd2 base e W V m->qQb sz rd base e W V m:=fun hh=>by
  obtain ⟨xss,q1,q2,q3⟩:=hh
  exact ⟨xss,q1,fun i hi hi'=>⟨(q2 i hi hi').1,by have:=(q2 i hi hi').2;rw [hrd2] at this;exact this.2⟩,q3⟩
 have hown3:qQb sz rd2 base e (w.alloc (.cells C e')) v l:=by
  obtain ⟨xss,q1,q2,q3⟩:=hown
  obtain ⟨xss',p1,p2,p3⟩:=hown2
  refine ⟨xss,q1,fun i hi hi'=>⟨(q2 i hi hi').1,by rw [hrd2];exact ⟨(q2 i hi hi').2,hal _ _ (q2 i hi hi').2⟩⟩,qJx q3 (fun b hb=>Below.heap_alloc w _ b (q3.lt b hb).2)⟩
 have hrow3:qQa sz rd2 (·=w.heap.size) (w.alloc (.cells C e')) (.slice (some ⟨w.heap.size,0,none⟩) 1 1) [y]:=by
  have:=qJs (rd:=rd2) (sz:=sz) w C.toList e' y (by simpa using hC.1) (by simp only [Array.toArray_toList];rw [hrd2];exact ⟨hC.2,hal _ _ hC.2⟩)
  simpa only [Array.toArray_toList] using this
 refine qZa hg s x t ho S hsz hs hown3 hx hrow3 (fun cs y' _ hr=>h1c _ _ _ (by rw [hrd2] at hr;exact hr.2)) (by simpa using hbytes) (by simpa using hmax) (by simp;omega)
  (fun w' hgr cs y' _ hr=>by
   rw [hrd2] at hr ⊢
   exact ⟨hr.1,hst _ _ _ (qQj (World.grownBy_alloc w _ _) hgr) hr.1⟩) ?_
 intro v' w' h1 h2 _ h3
 refine h v' w' (up h1) (qQj (World.grownBy_alloc w _ _) h2) ?_
 rcases h3 with h3 | ⟨k,h3,hk⟩
 ·exact .inl h3
 ·exact .inr ⟨k,h3,by simp at hk;omega⟩
def OwnP (base:Nat) (w:World) (v:Value) (d:Dc):Prop:=∃ lab:Nat->Nat,qQb 9 (qYk lab base) base 65 w v d.zipIdx/\∀ b,v.ownBlock=some b->lab b=0
theorem OwnP.form {base:Nat} {w:World} {v:Value} {d:Dc} (h:OwnP base w v d) {n:Nat} (hn:d.length=n):∃ a c,v=.slice a n c/\n<=c/\c<=9223372036854775807:=by
 subst hn
 obtain ⟨lab,h1,_⟩:=h
 obtain ⟨x,y,e,z1,z2⟩:=Rf h1.read
 exact ⟨x,y,by simpa using e,by simpa using z1,z2⟩
theorem zY7 {P:Dc} {x:Nd} {i:Nat} (h:P.length=i):(P++[x]).zipIdx=P.zipIdx++[(x,i)]:=by
 rw [List.zipIdx_append,h];simp
def OwnE (wr:World) (C:List Value) (x:Nd) (av kv sv:Value) (W:World):Prop:=Bel wr W/\Blk W wr.heap.size (((C.set 3 av).set 5 kv).set 7 sv) 65/\∃ p q r s:Nat,wr.heap.size<p/\p<=q/\q<=r/\r<=s/\s<=W.heap.size /\
 RowO 2 qK5 wr.heap.size 106 (fun k=>p<=k/\k<q) W av x.attrs/\RowO 1 qQf wr.heap.size 3 (fun k=>q<=k/\k<r) W kv x.kids/\RowO 1 qQf wr.heap.size 3 (fun k=>r<=k/\k<s) W sv x.shadow
def RowN {α:Type} (sz:Nat) (rd:World->List Value->α->Prop) (base:Nat) (e:TypeId) (w0:World) (w:World) (v:Value) (l:List α):Prop:=RowO sz rd base e (fun k=>w0.heap.size<=k/\k<w.heap.size) w v l
theorem qQb.change {α:Type} {sz:Nat} {rd rd':World->List Value->α->Prop} {base:Nat} {e:TypeId} {w w':World} {v:Value} {l:List α} (h:qQb sz rd base e w v l) (ha:∀ b,v.ownBlock=some b->w'.heap[b]?=w.heap[b]?) (hr:∀ cs x,rd w cs x->rd' w' cs x):qQb sz rd' base e w' v l:=by
 obtain ⟨xss,h1,h2,h3⟩:=h
 exact ⟨xss,h1,fun i hi hi'=>⟨(h2 i hi hi').1,hr _ _ (h2 i hi hi').2⟩,qJx h3 ha⟩
theorem ownE_mk {wr wz wa wk ws:World} {C:List Value} {x:Nd} {av kv sv:Value} (h0:qWy wr wz C) (ba:Bel wz wa) (xa:RowN 2 qK5 wr.heap.size 106 wz wa av x.attrs) (bk:Bel wa wk) (xk:RowN 1 qQf wr.heap.size 3 wa wk kv x.kids) (bs:Bel wk ws) (xs:RowN 1 qQf wr.heap.size 3 wk ws sv x.shadow) (hS:qWy wr ws C) :
 OwnE wr C x av kv sv (((ws.setCell ⟨wr.heap.size,3,none⟩ av).setCell ⟨wr.heap.size,5,none⟩ kv).setCell ⟨wr.heap.size,7,none⟩ sv):=by
 have hp:=h0.2.lt
 have hso:∀ k,k≠wr.heap.size->(((ws.setCell ⟨wr.heap.size,3,none⟩ av).setCell ⟨wr.heap.size,5,none⟩ kv).setCell ⟨wr.heap.size,7,none⟩ sv).heap[k]?=ws.heap[k]?:=fun k hk=>by
  rw [Below.heap_setCell _ _ _ k hk,Below.heap_setCell _ _ _ k hk,Below.heap_setCell _ _ _ k hk]
 have s1:=ba.size
 have s2:=bk.size
 have s3:=bs.size
 refine ⟨((hS.1.setCell _ _ _ (Zb _)).setCell _ _ _ (Zb _)).setCell _ _ _ (Zb _),((hS.2.set 3 av).set 5 kv).set 7 sv,wz.heap.size,wa.heap.size,wk.heap.size,ws.heap.size,hp,s1,s2,s3,by simp [World.setCell],?_,?_,?_⟩
 ·exact RowO.move xa qZc (fun b hb hl=>by rw [hso b (by omega),bs.block b (by omega),bk.block b hl]) (fun b hb _=>hb)
 ·exact RowO.move xk qQc (fun b hb hl=>by rw [hso b (by omega),bs.block b hl]) (fun b hb _=>hb)
 ·exact RowO.move xs qQc (fun b hb hl=>by rw [hso b (by omega)]) (fun b hb _=>hb)
theorem RowO.base_le {α:Type} {sz:Nat} {rd:World->List Value->α->Prop} {base base':Nat} {e:TypeId} {w:World} {v:Value} {l:List α} {Q Q':Nat->Prop} (h:RowO sz rd base e Q w v l) (hb:base'<=base) (hq:∀ b,Q b->Q' b):RowO sz rd base' e Q' w v l:=⟨h.1.base_le hb,fun b hb'=>hq b (h.2 b hb')⟩
theorem zB6 {base:Nat} {wr wc:World} {o:Value} {d:Dc} {i:Nat} {X:Nd} {av kv sv:Value} {C:List Value} (h:OwnP base wr o d) (hb:base<=wr.heap.size) (hE:OwnE wr C X av kv sv wc) :
 ∃ lab:Nat->Nat,qQb 9 (qYk lab base) base 65 wc o d.zipIdx/\qYk lab base wc [.bool X.live,.string ⟨X.tag.toArray⟩,.string ⟨X.text.toArray⟩,av,.int .i64 X.up,kv,.bool X.hasS,sv,.bool X.inS] (X,i)/\(∀ b,o.ownBlock=some b->lab b=0)/\∀ b,wc.heap.size<=b->lab b=0:=by
 obtain ⟨lab,h1,h2⟩:=h
 obtain ⟨hB,_,p,q,r,s,g1,g2,g3,g4,g5,xa,xk,xs⟩:=hE
 have hlt:=fun b hb=>(h1.lt b hb).2
 refine ⟨fun k=>if k<wr.heap.size then lab k else if k<p then 0 else if k<q then 3*i+1 else if k<r then 3*i+2 else if k<s/\k<wc.heap.size then 3*i+3 else 0,?_,?_,?_,?_⟩
 ·exact h1.change (fun b hb=>hB.block b (hlt b hb)) (fun cs y hr=>hr.move (fun b hl _ _=>⟨hB.block b hl,if_pos hl⟩))
 ·refine ⟨av,kv,sv,rfl,xa.base_le hb (fun b hb=>?_),xk.base_le hb (fun b hb=>?_),?_⟩
  ·simp only
   rw [if_neg (by omega),if_neg (by omega),if_pos (by omega)]
  ·simp only
   rw [if_neg (by omega),if_neg (by omega),if_neg (by omega),if_pos (by omega)]
  ·refine ⟨xs.1.base_le hb,fun b hb=>?_⟩
   have hq:=xs.2 b hb
   have hl:=(xs.1.lt b hb).2
   simp only
   rw [if_neg (by omega),if_neg (by omega),if_neg (by omega),if_neg (by omega),if_pos ⟨hq.2,hl⟩]
 ·intro b hb
  simp only [hlt b hb,if_true]
  exact h2 b hb
 ·intro b hb'
  have hs:=hB.size
  simp only
  rw [if_neg (by omega),if_neg (by omega),if_neg (by omega),if_neg (by omega),if_neg (by omega)]
theorem qH1 (m:Nat) (v:Value) (d:Dc) (w:World) (hv:qZb m w v d) (hm:m<=w.heap.size) (hd:d.length<=1000) (hA:∀ x∈d,x.attrs.length<=1000/\x.kids.length<=1000/\x.shadow.length<=1000) :
 Calls Tryz.prog 126 #[v] w (Rn w fun w' y=>OwnP w.heap.size w' y d):=by
 obtain ⟨a,c,rfl,l1,l2⟩:=Rf hv
 have HV:=lH hv
 have HA:=lH hA
 clear hv hA
 go_enter Tryz.func126,Tryz.ntmps126
 go_wp2
 go_loopw [8,3] (fun z o wr=>∃ i:Nat,i<=d.length/\z=.int .i64 i/\OwnP w.heap.size wr o (d.take i)/\Bel w wr) (fun z _ _=>d.length - (intOf z).toNat)
 case atStart=>exact ⟨0,by omega,rfl,⟨fun _=>0,qQb.nil _ _ _,fun b h=>by cases h⟩,Br _⟩
 case round=>
  obtain ⟨i,hi,rfl,hO,hB⟩:=hrel
  have HO:=lH hO
  have HB:=lH hB
  have hD:=HV.o.later hB hm
  have hmr:=Za hm hB.size
  have hti:(d.take i).length=i:=by rw [List.length_take];omega
  obtain ⟨oa,oc,rfl,o1,o2⟩:=hO.form hti
  clear hO hB
  by_cases hlt:i<d.length
  ·obtain ⟨b,off,cap',av,kv,sv,e1,-,-,-,hN⟩:=hD.node i hlt
   simp at e1
   obtain ⟨rfl,rfl⟩:=e1
   have c0:=hN.live
   have c1:=hN.tag
   have c2:=hN.text
   have c3:=hN.atts
   have c4:=hN.up
   have c5:=hN.kids
   have c6:=hN.hasS
   have c7:=hN.shadow
   have c8:=hN.inS
   have PA:=lH hN.attsAt
   have PK:=lH hN.kidsAt
   have PS:=lH hN.shadowAt
   obtain ⟨la,lk,ls⟩:=HA.o _ (Zl hlt)
   have hst:Hi (d.take (i+1)=d.take i++[d[i]]):=lH (Zk hlt)
   clear hN hD
   generalize hX:d[i]=X at *
   obtain ⟨xl,xt,xx,xa,xu,xk,xh,xs,xi⟩:=X
   simp only at c0 c1 c2 c3 c4 c5 c6 c7 c8 PA PK PS la lk ls
   obtain ⟨ka,kc,rfl,k1,k2⟩:=Rf PK.o
   obtain ⟨sa,sc,rfl,s1,s2⟩:=Rf PS.o
   obtain ⟨aa,ac,rfl,a1,a2⟩:=Rf PA.o
   go_upto_region 5 with fail
   obtain ⟨w0,hw0⟩:∃ w0:World,w0=wr.alloc (.cells #[.bool xl,.string ⟨xt.toArray⟩,.string ⟨xx.toArray⟩,.slice aa xa.length ac,.int .i64 xu,.slice ka xk.length kc,.bool xh,.slice sa xs.length sc,.bool xi] 65):=⟨_,rfl⟩
   have hK:Blk w0 wr.heap.size [.bool xl,.string ⟨xt.toArray⟩,.string ⟨xx.toArray⟩,.slice aa xa.length ac,.int .i64 xu,.slice ka xk.length kc,.bool xh,.slice sa xs.length sc,.bool xi] 65:=by rw [hw0];exact Blk.new' _ _ rfl _ _
   have hB0:Bel wr w0:=by rw [hw0];exact (Br wr).alloc _
   rw [<- hw0]
   clear hw0 c0 c1 c2 c3 c4 c5 c6 c7 c8
   have hS0:qWy wr w0 _:=⟨hB0,hK⟩
   generalize hC:[Value.bool xl,.string ⟨xt.toArray⟩,.string ⟨xx.toArray⟩,.slice aa xa.length ac,.int .i64 xu,.slice ka xk.length kc,.bool xh,.slice sa xs.length sc,.bool xi]=C at *
   have F:∀ W,qWy wr W C->W.cell? ⟨wr.heap.size,3,none⟩=some (.slice aa xa.length ac)/\W.cell? ⟨wr.heap.size,5,none⟩=some (.slice ka xk.length kc)/\W.cell? ⟨wr.heap.size,7,none⟩=some (.slice sa xs.length sc)/\W.frozen? ⟨wr.heap.size,3,none⟩=false/\W.frozen? ⟨wr.heap.size,5,none⟩=false/\W.frozen? ⟨wr.heap.size,7,none⟩=false:=by
    intro W h
    refine ⟨?_,?_,?_,h.2.frozen 3,h.2.frozen 5,h.2.frozen 7⟩
    ·rw [h.2.cell 3,<- hC];rfl
    ·rw [h.2.cell 5,<- hC];rfl
    ·rw [h.2.cell 7,<- hC];rfl
   obtain ⟨q3,q5,q7,f3,f5,f7⟩:=F w0 hS0
   have cA:Hi (∀ W,qWy wr W C->Calls Tryz.prog 174 #[.slice aa xa.length ac] W (fun e W'=>∃ a n c,e=.returned (.slice a n c)/\qWy wr W' C/\Bel W W'/\RowN 2 qK5 wr.heap.size 106 W W' (.slice a n c) xa)):=lH (by
    intro W hW
    refine (qFy m _ xa _ (qQa.later (qQa.mono PA.o (fun _ h=>h) (fun _ _ _ h=>h)) qZc hW.1 hmr) (Za hmr hW.1.size) (by omega)).mono ?_
    rintro e w1 ⟨b1,x1,rfl,o1⟩
    obtain ⟨y1,z1,rfl,_,_⟩:=Rf o1.read
    exact ⟨_,_,_,rfl,hW.bel b1,b1,o1.base_le hW.1.size,fun k hk=>o1.lt k hk⟩)
   have cK:Hi (∀ W,qWy wr W C->Calls Tryz.prog 127 #[.slice ka xk.length kc] W (fun e W'=>∃ a n c,e=.returned (.slice a n c)/\qWy wr W' C/\Bel W W'/\RowN 1 qQf wr.heap.size 3 W W' (.slice a n c) xk)):=lH (by
    intro W hW
    refine (qZq m _ xk _ (qQa.later PK.o qQc hW.1 hmr) (Za hmr hW.1.size) (by omega)).mono ?_
    rintro e w1 ⟨b1,x1,rfl,o1⟩
    obtain ⟨y1,z1,rfl,_,_⟩:=Rf o1.read
    exact ⟨_,_,_,rfl,hW.bel b1,b1,o1.base_le hW.1.size,fun k hk=>o1.lt k hk⟩)
   have cS:Hi (∀ W,qWy wr W C->Calls Tryz.prog 127 #[.slice sa xs.length sc] W (fun e W'=>∃ a n c,e=.returned (.slice a n c)/\qWy wr W' C/\Bel W W'/\RowN 1 qQf wr.heap.size 3 W W' (.slice a n c) xs)):=lH (by
    intro W hW
    refine (qZq m _ xs _ (qQa.later PS.o qQc hW.1 hmr) (Za hmr hW.1.size) (by omega)).mono ?_
    rintro e w1 ⟨b1,x1,rfl,o1⟩
    obtain ⟨y1,z1,rfl,_,_⟩:=Rf o1.read
    exact ⟨_,_,_,rfl,hW.bel b1,b1,o1.base_le hW.1.size,fun k hk=>o1.lt k hk⟩)
   have HS0:=lH hS0.drew
   have HF:=lH F
   clear hS0 F hB0 hK
   go_cut [] from 12 to 23 (fun w3=>∃ a1 n1 c1 a2 n2 c2 a3 n3 c3,OwnE wr C ⟨xl,xt,xx,xa,xu,xk,xh,xs,xi⟩ (.slice a1 n1 c1) (.slice a2 n2 c2) (.slice a3 n3 c3) w3)
   case first=>
    go_region_with (first
 | (go_at_call 174;refine (cA.o _ ?_).mono ?_;(first | exact HS1.o | exact HS0.o);rintro e wa ⟨ya,na,za,rfl,hS1,b1,o1⟩;obtain ⟨q3,q5,q7,f3,f5,f7⟩:=HF.o _ hS1;have HS1:=lH hS1;have BA:=lH b1;have XA:=lH o1;clear hS1 b1 o1)
 | (go_at_call_of 127 (Value.slice ka xk.length kc);refine (cK.o _ ?_).mono ?_;(first | exact HS1.o | exact HS0.o);rintro e wk ⟨yk,nk,zk,rfl,hS1,b1,o1⟩;obtain ⟨q3,q5,q7,f3,f5,f7⟩:=HF.o _ hS1;have HS1:=lH hS1;have BK:=lH b1;have XK:=lH o1;clear hS1 b1 o1)
 | (go_at_call_of 127 (Value.slice sa xs.length sc);refine (cS.o _ ?_).mono ?_;(first | exact HS1.o | exact HS0.o);rintro e ws ⟨ys,ns,zs,rfl,hS1,b1,o1⟩;obtain ⟨q3,q5,q7,f3,f5,f7⟩:=HF.o _ hS1;have HS1:=lH hS1;have BS:=lH b1;have XS:=lH o1;clear hS1 b1 o1))
    all_goals
     go_wp2_with fail
     go_meet
     exact ⟨ya,na,za,yk,nk,zk,ys,ns,zs,ownE_mk HS0.o BA.o XA.o BK.o XK.o BS.o XS.o HS1.o⟩
   case rest=>
    obtain ⟨ya,na,za,yk,nk,zk,ys,ns,zs,hE⟩:=hcut
    clear q3 q5 q7 f3 f5 f7 HS0 HF cA cK cS
    obtain ⟨lab,g1,g2,g3,g4⟩:=zB6 (i:=i) HO.o HB.o.size hE
    have e1:=hE.1
    have e2:=hE.2.1
    rw [<- hC] at e2
    have n0:=e2.cell 0
    have n1:=e2.cell 1
    have n2:=e2.cell 2
    have n3:=e2.cell 3
    have n4:=e2.cell 4
    have n5:=e2.cell 5
    have n6:=e2.cell 6
    have n7:=e2.cell 7
    have n8:=e2.cell 8
    simp at n0 n1 n2 n3 n4 n5 n6 n7 n8
    have HE1:=lH (Bt HB.o e1)
    have HO1:=lH g1
    have HR1:=lH g2
    have HL1:=lH g3
    have HL2:=lH g4
    have HS1:Hi (w.heap.size<=wc.heap.size):=lH HE1.o.size
    have hzl:(d.take i).zipIdx.length=i:=by simp;omega
    clear hE e1 e2 g1 g2 g3 g4
    go_wp2_with (at_builtin;go_must (refine qGc rfl _ _ _ rfl zBi (by decide) (rd:=qYk lab w.heap.size) (v:=.slice oa i oc) ?hst zHb (base:=w.heap.size) rfl HO1.o rfl ?hgs (⟨xl,xt,xx,xa,xu,xk,xh,xs,xi⟩,i) ⟨rfl,HR1.o⟩ ?hby ?hmx HS1.o ?_);(case hst=>exact fun w' cs y hg hr=>hr.move (fun b hb h1 h2=>⟨hg.block b hb (fun e=>by have:=HL1.o b e.symm;omega),rfl⟩));(case hgs=>rfl);(case hby=>rw [hzl];omega);(case hmx=>rw [hzl];omega);intro v4 w4 o4 g4 f4;have O4:=lH o4;have G4:=lH g4;have F4:=lH f4;clear o4 g4 f4)
    go_roundw
    case rel=>
     refine ⟨i+1,by omega,by go_num,⟨lab,by rw [hst.o,zY7 hti];exact O4.o,fun b hb=>?_⟩,Below.grown HE1.o G4.o HE1.o.size (fun k hk=>(HO1.o.lt k hk).1)⟩
     rcases F4.o with e | ⟨k,e,hk⟩
     ·rw [e] at hb;exact HL1.o b hb
     ·rw [e] at hb;cases hb;exact HL2.o _ hk
    case measure=>simp [intOf];omega
  ·have hT:d.take i=d:=Zn (by omega)
   rw [hT] at HO
   go_wp2
   go_ret
   exact ⟨HB.o,_,rfl,HO.o⟩
end Go.Proofs.YtklbmkaomojciaaGreat
