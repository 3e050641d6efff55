/- diff's differ: an event is done, and kept: walked. -/
import Derived.Test.YtkhkbifdakikcaaGreatDoorDetA
set_option maxRecDepth 100000
set_option maxHeartbeats 4000000
namespace Go.Proofs.YtkhkbifdakikcaaGreatDoor
open Go.RowKit
structure WP extends World where
 P:Nat->Prop
 wp:World
variable {e:Evt} {t t':Fl} {S:Int->Sv} {evs:List Evt} {D:Nat} {lab:Nat->Int} {o:Oper} {x:Operand} {ρ:Operand->Value} {P:Program} {ov v:Value} {R:Value->World->Prop} {w0:WP} {w w' w1:World}
structure Dif (w0:WP) (D:Nat) (w:World) (L:List Int) (t:Fl) (evs:List Evt):Prop where
 wf:Wf t
 heads:zQ5 t
 fits:Fits L t
 le:w0.heap.size<=D
 bel:Bel w0.toWorld w
 st:∃ S lab ov,qQx w0.heap.size w S lab t/\BoxOk w ⟨D,0,none⟩ S t/\w.cell? ⟨D,1,none⟩=some ov/\w.frozen? ⟨D,1,none⟩=false/\qQb 12 rdEv w0.heap.size 84 w ov evs/\ov.ownBlock≠some D/\(∀ n,(n = -1∨Has t n)->∀ b,(S n).v.ownBlock=some b->ov.ownBlock≠some b) /\
  ∀ b,w0.P b->b≠D/\ov.ownBlock≠some b/\∀ n,(n = -1∨Has t n)->(S n).v.ownBlock≠some b
 blk:∃ C e,Blk w D C e
 kept:∀ b,w0.P b->w.heap[b]?=w0.wp.heap[b]?/\b<w.heap.size
theorem still_ev:qHo rdEv:=fun _ _ _ _ h=>h
theorem one_ev:∀ (w:World) (cs:List Value) (y:Evt),rdEv w cs y->∀ u∈cs,u.oneCell'=true:=by
 intro w cs y h u H;cases h;simp [evCells,qQi] at H;rcases H with rfl | rfl | rfl | rfl | rfl | rfl | rfl | rfl | rfl | rfl | rfl | rfl <;> rfl
theorem zBn:SlT Tryz.prog 49 84 12 128:=by
 refine ⟨by kernel_rfl,?_⟩;obtain ⟨i,h,H,a,b⟩:=info_parts (by kernel_rfl:(Tryz.prog.info? 84).map (fun i=>(i.zero,i.size,i.bytes))=some (some (.agg #[.int .i64 0,.int .i64 0,.int .i64 0,.int .i64 0,.int .i64 0,.int .i64 0,.string ⟨#[]⟩,.string ⟨#[]⟩,.int .i64 0,.int .i64 0,.bool false,.slice none 0 0]),12,128));exact ⟨i,_,h,H,a,b,rfl⟩
theorem Dif.bel' {L:List Int} (h:Dif w0 D w L t evs) (H:Bel w w'):Dif w0 D w' L t evs:=by
 obtain ⟨d,f,g,i,j,⟨S,lab,ov,K,k,m,n,p,q,r,s⟩,⟨C,e,l⟩,a⟩:=h;exact ⟨d,f,g,i,Bt j H,⟨S,lab,ov,K.bel H,k.bel H,(World.cell?_of_block (a:=⟨D,1,none⟩) (H.block _ k.lt)).trans m,(World.frozen?_of_block (a:=⟨D,1,none⟩) (H.block _ k.lt)).trans n,p.below H (Zb _) (fun _ _ _ h=>h),q,r,s⟩,⟨C,e,l.bel H⟩,fun b c=>⟨(H.block b (a b c).2).trans (a b c).1,Zc (a b c).2 H.size⟩⟩
theorem dif_one {L:List Int} (h:Dif w0 D w L t evs) (M:qQx w0.heap.size w1 S lab t) (N:BoxOk w1 ⟨D,0,none⟩ S t) (O:w1.cell? ⟨D,1,none⟩=some ov) (Q:w1.frozen? ⟨D,1,none⟩=false)
 (K:qQb 12 rdEv w0.heap.size 84 w1 ov evs) (p:ov.ownBlock≠some D) (q:∀ n,(n = -1∨Has t n)->∀ b,(S n).v.ownBlock=some b->ov.ownBlock≠some b) (k:∀ b,w0.P b->b≠D/\ov.ownBlock≠some b/\∀ n,(n = -1∨Has t n)->(S n).v.ownBlock≠some b) (i:∀ b,w0.P b->w1.heap[b]?=w0.wp.heap[b]?/\b<w1.heap.size) (A:Bel w0.toWorld w1) (g:Goes t e t') (F:e.kind=2->e.item.h.node∈L) (B:∃ C e,Blk w1 D C e) (G:Grew w0.heap.size ⟨D,0,none⟩ w1 S t w' t') :
 Dif w0 D w' L t' evs:=by
 obtain ⟨s,T,u,y,a⟩:=G;have J:∀ b,ov.ownBlock=some b->w'.heap[b]?=w1.heap[b]?:=fun b c=>a.block b (K.lt b c).2 (fun e=>p (by rw [c,e])) (fun n d e=>q n d b e c);obtain ⟨W,X⟩:=a.side N.lt;obtain ⟨U,V⟩:=W 1 (show (1:Nat)≠0 by decide);obtain ⟨C,l,I⟩:=B;refine ⟨g.wf h.wf,g.heads h.wf h.heads,g.fits h.wf h.fits F,h.le,a.bel M h.le A (Zb _),⟨s,T,ov,u,y,U.trans O,V.trans Q,K.agree J (fun _ _ _ h=>h),p,fun n d b c f=>?_,fun b H=>⟨(k b H).1,(k b H).2.1,fun n d f=>?_⟩⟩,(by obtain ⟨r,z⟩:=X C l I;exact ⟨r,l,z⟩),fun b H=>⟨(a.block b (i b H).2 (k b H).1 (k b H).2.2).trans (i b H).1,Zc (i b H).2 a.size⟩⟩
 ·rcases a.rows n d b c with E | ⟨m,j,E⟩
  ·have:=(K.lt b f).2;omega
  ·exact q m j b E f
 ·rcases a.rows n d b f with E | ⟨m,j,E⟩
  ·have:=(i b H).2;omega
  ·exact (k b H).2.2 m j E
theorem dif_push {W:World} {L:List Int} {O:Value} (h:Dif w0 D w L t evs) (i:qQx w0.heap.size w S lab t) (K:BoxOk w ⟨D,0,none⟩ S t)
 (q:ov.ownBlock≠some D) (s:∀ n,(n = -1∨Has t n)->∀ b,(S n).v.ownBlock=some b->ov.ownBlock≠some b) (g:∀ b,w0.P b->b≠D/\ov.ownBlock≠some b/\∀ n,(n = -1∨Has t n)->(S n).v.ownBlock≠some b) (I:qQb 12 rdEv w0.heap.size 84 w ov evs) (F:w.cell? ⟨D,1,none⟩=some ov) (G:w.frozen? ⟨D,1,none⟩=false) (hg:w.grownBy W ov.ownBlock) (A:qQb 12 rdEv w0.heap.size 84 W O (evs++[e])) (j:qZc w ov O) :
 W.cell? ⟨D,1,none⟩=some ov/\W.frozen? ⟨D,1,none⟩=false/\Dif w0 D (W.setCell ⟨D,1,none⟩ O) L t (evs++[e]):=by
 have f:W.heap[D]?=w.heap[D]?:=hg.block _ K.lt (fun e=>q e.symm);have l:W.cell? ⟨D,1,none⟩=some ov:=(World.cell?_of_block (a:=⟨D,1,none⟩) f).trans F;have m:W.frozen? ⟨D,1,none⟩=false:=(World.frozen?_of_block (a:=⟨D,1,none⟩) f).trans G;have p:O.ownBlock≠some D:=by
  rcases j with e | ⟨k,e,d⟩
  ·rw [e];exact q
  ·rw [e];intro E;cases E;have:=K.lt;exact absurd this (by simp;omega)
 have B:∀ n,(n = -1∨Has t n)->∀ b,(S n).v.ownBlock=some b->(W.setCell ⟨D,1,none⟩ O).heap[b]?=w.heap[b]?:=fun n a b c=>by
  rw [Below.heap_setCell _ _ _ _ (fun e=>K.apart n a (by rw [c,e]))];exact hg.block _ ((i n a).1.lt b c).2 (fun e=>s n a b c e.symm)
 refine ⟨l,m,h.wf,h.heads,h.fits,h.le,Bel.setCell (Below.grown h.bel hg h.bel.size (fun k d=>(I.lt k d).1)) _ _ _ h.le,⟨S,lab,O,fun n a=>⟨(i n a).1.agree (B n a) (fun _ _ _ r=>by unfold rdIc at r ⊢;exact r),(i n a).2⟩,⟨?_,?_,?_,K.apart⟩,World.cell?_setCell_same _ _ _ l,by rw [World.frozen?_setCell];exact m,?_,p,fun n a b c E=>?_,fun b H=>⟨(g b H).1,fun E=>?_,(g b H).2.2⟩⟩,(by obtain ⟨C,y,d⟩:=h.blk;obtain ⟨u,z⟩:=(d.of f).any ⟨D,1,none⟩ O;exact ⟨u,y,z⟩),fun b H=>⟨(Below.heap_setCell _ _ _ _ (g b H).1).trans ((hg.block b (h.kept b H).2 (fun e=>(g b H).2.1 e.symm)).trans (h.kept b H).1),by rw [World.size_setCell];exact Zc (h.kept b H).2 hg.size⟩⟩
 ·rw [World.cell?_setCell_other _ _ _ _ (by simp)];exact (World.cell?_of_block (a:=⟨D,0,none⟩) f).trans K.cell
 ·rw [World.frozen?_setCell];exact (World.frozen?_of_block (a:=⟨D,0,none⟩) f).trans K.open'
 ·rw [World.size_setCell];exact Zc K.lt hg.size
 ·exact A.agree (fun b c=>Below.heap_setCell _ _ _ _ (fun e=>p (by rw [c,e]))) (fun _ _ _ h=>h)
 ·rcases j with e | ⟨k,e,d⟩
  ·rw [e] at E;exact s n a b c E
  ·rw [e] at E;cases E;have:=((i n a).1.lt _ c).2;omega
 ·rcases j with e | ⟨k,e,d⟩
  ·rw [e] at E;exact (g b H).2.1 E
  ·rw [e] at E;cases E;have:=(h.kept _ H).2;omega
theorem zVp (a b c d e f:Int) (g h:Txt) (i j:Int) (k:Bool) (w:World):(Instr.buildSlice 49 1 #[(0,.agg #[.int .i64 a,.int .i64 b,.int .i64 c,.int .i64 d,.int .i64 e,.int .i64 f,.string ⟨g.toArray⟩,.string ⟨h.toArray⟩,.int .i64 i,.int .i64 j,.bool k,.slice none 0 0])]).run Tryz.prog w =
 .ok (.slice (some ⟨w.heap.size,0,none⟩) 1 1) (w.alloc (.cells #[.int .i64 a,.int .i64 b,.int .i64 c,.int .i64 d,.int .i64 e,.int .i64 f,.string ⟨g.toArray⟩,.string ⟨h.toArray⟩,.int .i64 i,.int .i64 j,.bool k,.slice none 0 0] 84)):=by kernel_rfl
theorem zZt {t:TypeId} (H:o.op=.buildSlice t 1 #[(0,x)]) {X:Value} (a:ρ x=X) (r:(Instr.buildSlice t 1 #[(0,X)]).run P w=.ok v w')
 (h:R v w'):qW0 P R ((execOp ρ o).run P w):=by
 have e:(execOp ρ o).run P w=.ok (.value v) w':=by
  unfold execOp;simp [H,a,r]
 rw [e];exact h
theorem qGu {s:Operand} {t:TypeId} (A:o.op=.call {callee:=.builtin .append,args:=#[s,x],argTypes:=#[t,t] } ) {e:TypeId} {sz b:Nat} (S:SlT P t e sz b) (K:0<sz) {c:Type} {rd:World->List Value->c->Prop} (hst:qHo rd)
 {base:Nat} {l:List c} (I:ρ s=v) (B:qQb sz rd base e w v l) {g:Nat} (N:ρ x=.slice (some ⟨g,0,none⟩) 1 1) {C:List Value} {E:TypeId} (hC:Blk w g C E) (f:C.length=sz) {y:c} (F:rd w C y) (d:∀ u∈C,u.oneCell'=true)
 (p:(l.length+1)*b<=140737488355328) (a0:l.length+1<=9223372036854775807) (n:base<=w.heap.size) (h:∀ V w',qQb sz rd base e w' V (l++[y])->w.grownBy w' v.ownBlock->qZc w v V->R V w'):qW0 P R ((execOp ρ o).run P w):=by
 obtain ⟨i,z,r,O,J,hby,Q⟩:=S.info;obtain ⟨Z,X,q,Y⟩:=B;obtain ⟨V,w',G,T,U,o3,W⟩:=qYn (P:=P) w base t o.type e i z sz b S.und r O J hby Q K v l.length Z.flatten Y ⟨g,0,none⟩ 1 1 C (by omega) (fun j u M=>by
  have m:(⟨g,0,none⟩:Addr).add j=⟨g,j,none⟩:=by unfold Addr.add;split <;> simp_all
  rw [m,hC.cell];exact M) d (by unfold maxLen;omega) p n
 have hE:(execOp ρ o).run P w=.ok (.value V) w':=by
  unfold execOp;simp only [A,resolve,invoke,builtin,Sem.run_bind,Sem.run_pure,Result.andThen_ok,List.map_toArray,List.map_cons,List.map_nil,I,N,G]
 rw [hE];exact h V w' (qQb.snoc_of (yss:=[C]) (m:=[y]) X (fun k H a=>⟨(q k H a).1,hst _ _ _ _ (q k H a).2⟩) rfl (fun k H a=>by
  obtain rfl:k=0:=by simpa using H
  exact ⟨f,hst _ _ _ _ F⟩) (by simpa using T)) U W
theorem qXe {L:List Int} {E a d s H i:Int} {hm ha:Txt} {l c:Int} {f:Bool} (a0:Dif w0 D w L t evs) (g:Goes t ⟨E,a,d,s,.mk ⟨H,i,hm,ha,l,c,f⟩ []⟩ t') (af:E=2->H∈L) (hL:L.length<=1000000000) (aj:evs.length<=10000000000) :
 Calls Tryz.prog 59 #[.pointer (some ⟨D,0,none⟩),.agg #[.int .i64 E,.int .i64 a,.int .i64 d,.int .i64 s,.int .i64 H,.int .i64 i,.string ⟨hm.toArray⟩,.string ⟨ha.toArray⟩,.int .i64 l,.int .i64 c,.bool f,.slice none 0 0]] w
  fun r w'=>(∃ x,r=.returned x)/\Dif w0 D w' L t' (evs++[⟨E,a,d,s,.mk ⟨H,i,hm,ha,l,c,f⟩ []⟩]):=by
 have hM:=a0
 obtain ⟨h1,N,h3,h4,h5,⟨S,lab,ov,z,p,A,F,q,G,I,J⟩,⟨Cb,eb,a8⟩,O⟩:=hM
 have y:=p.lt
 simp only at y
 have a4:Hi (Calls Tryz.prog 108 #[.pointer (some ⟨D,0,none⟩),.pointer (some ⟨w.heap.size,0,none⟩)] (w.alloc (.cells #[.int .i64 E,.int .i64 a,.int .i64 d,.int .i64 s,.int .i64 H,.int .i64 i,.string ⟨hm.toArray⟩,.string ⟨ha.toArray⟩,.int .i64 l,.int .i64 c,.bool f,.slice none 0 0] 84)) fun r w'=>r=.returned (.int .i64 0)/\Dif w0 D w' L t' evs/\Blk w' w.heap.size [.int .i64 E,.int .i64 a,.int .i64 d,.int .i64 s,.int .i64 H,.int .i64 i,.string ⟨hm.toArray⟩,.string ⟨ha.toArray⟩,.int .i64 l,.int .i64 c,.bool f,.slice none 0 0] 84/\∀ ov,w'.cell? ⟨D,1,none⟩=some ov->ov.ownBlock≠some w.heap.size):=by
  have m:Bel w (w.alloc (.cells #[.int .i64 E,.int .i64 a,.int .i64 d,.int .i64 s,.int .i64 H,.int .i64 i,.string ⟨hm.toArray⟩,.string ⟨ha.toArray⟩,.int .i64 l,.int .i64 c,.bool f,.slice none 0 0] 84)):=(Br w).alloc _;have K:Blk (w.alloc (.cells #[.int .i64 E,.int .i64 a,.int .i64 d,.int .i64 s,.int .i64 H,.int .i64 i,.string ⟨hm.toArray⟩,.string ⟨ha.toArray⟩,.int .i64 l,.int .i64 c,.bool f,.slice none 0 0] 84)) w.heap.size [.int .i64 E,.int .i64 a,.int .i64 d,.int .i64 s,.int .i64 H,.int .i64 i,.string ⟨hm.toArray⟩,.string ⟨ha.toArray⟩,.int .i64 l,.int .i64 c,.bool f,.slice none 0 0] 84:=Blk.new' w _ rfl #[.int .i64 E,.int .i64 a,.int .i64 d,.int .i64 s,.int .i64 H,.int .i64 i,.string ⟨hm.toArray⟩,.string ⟨ha.toArray⟩,.int .i64 l,.int .i64 c,.bool f,.slice none 0 0] 84;generalize w.alloc (.cells #[.int .i64 E,.int .i64 a,.int .i64 d,.int .i64 s,.int .i64 H,.int .i64 i,.string ⟨hm.toArray⟩,.string ⟨ha.toArray⟩,.int .i64 l,.int .i64 c,.bool f,.slice none 0 0] 84)=w1 at *
  have V:=z.bel m;have Q:=p.bel m;have a7:∀ n,(n = -1∨Has t n)->(S n).v.ownBlock≠some w.heap.size:=fun n H e=>by
   have:=((z n H).1.lt _ e).2;omega
  refine lH ((zZ7 V h1 N Q (e:=⟨E,a,d,s,.mk ⟨H,i,hm,ha,l,c,f⟩ []⟩) (eb:=w.heap.size) (eo:=0) ⟨K.cell 0,K.cell 1,K.cell 2,K.cell 3,K.cell 4,K.cell 5,K.cell 6,K.cell 7,K.cell 8,K.cell 9,K.cell 10,K.cell 11⟩ g (fun n=>Za (h3.len h1 n) hL) (Bt h5 m).size (by simp only;omega) a7).mono ?_);rintro r w' ⟨rfl,a2⟩;refine ⟨rfl,dif_one a0 V Q ((World.cell?_of_block (a:=⟨D,1,none⟩) (m.block _ p.lt)).trans A) ((World.frozen?_of_block (a:=⟨D,1,none⟩) (m.block _ p.lt)).trans F) (q.below m (Zb _) (fun _ _ _ h=>h)) G I J (fun b hP=>⟨(m.block b (O b hP).2).trans (O b hP).1,Zc (O b hP).2 m.size⟩) (Bt h5 m) g af ⟨Cb,eb,a8.bel m⟩ a2,?_⟩;obtain ⟨S',ak,g1,g2,g3⟩:=a2;refine ⟨K.of (g3.block _ K.lt (by simp only;omega) a7),fun al N e2=>?_⟩;have hs:=(((g3.side Q.lt).1 1 (show (1:Nat)≠0 by decide)).1.trans ((World.cell?_of_block (a:=⟨D,1,none⟩) (m.block _ p.lt)).trans A)).symm.trans N;obtain rfl:=Option.some.inj hs;have:=(q.lt _ e2).2;omega
 clear z p A F q G I J h1 N h3 h4 h5 O a0 g a8
 go_enter Tryz.func59,Tryz.ntmps59
 go_upto_region 2 with (go_at_call 108;(with_reducible refine a4.o.mono ?_);rintro r w2 ⟨rfl,aa,kb,ko⟩;have HM:=lH aa;have HK:=lH kb;have a3:=lH ko;clear aa kb ko)
 obtain ⟨-,-,-,-,hb2,⟨S,lab,ov,z,p,A,F,q,G,I,J⟩,-⟩:=HM.o
 obtain ⟨oa,oc,rfl,o1,o2⟩:=Rf q.read
 have H1:=lH z
 have H2:=lH p
 have H3:=lH A
 have H4:=lH F
 have H5:=lH q
 have H6:=lH G
 have H7:=lH I
 have H8:=lH J
 clear z p A F q G I J hb2 a4 y
 have ac:=lH (a3.o _ H3.o)
 have y:=H2.o.lt
 simp only at y
 have ab:=lH y
 clear y a3
 refine qQ6 [0,1,2,3,4,5] [(6,some 14,[]),(7,some 15,[6])] [8,9,10] (fun x W=>W.cell? ⟨D,1,none⟩=some (.slice oa evs.length oc)/\W.frozen? ⟨D,1,none⟩=false/\Blk W w.heap.size [.int .i64 E,.int .i64 a,.int .i64 d,.int .i64 s,.int .i64 H,.int .i64 i,.string ⟨hm.toArray⟩,.string ⟨ha.toArray⟩,.int .i64 l,.int .i64 c,.bool f,.slice none 0 0] 84/\(x 7=none->Bel w2 W/\∀ u,x 6=some u->∃ gg,u=.slice (some ⟨gg,0,none⟩) 1 1/\Blk W gg [.int .i64 E,.int .i64 a,.int .i64 d,.int .i64 s,.int .i64 H,.int .i64 i,.string ⟨hm.toArray⟩,.string ⟨ha.toArray⟩,.int .i64 l,.int .i64 c,.bool f,.slice none 0 0] 84) /\
  (∀ u,x 7=some u->(∃ za zn zc,u=.slice za zn zc)/\Dif w0 D (W.setCell ⟨D,1,none⟩ u) L t' (evs++[⟨E,a,d,s,.mk ⟨H,i,hm,ha,l,c,f⟩ []⟩]))/\∀ u,x 7=some u->∃ u',x 6=some u') (by kernel_rfl) (by kernel_rfl) ⟨H3.o,H4.o,HK.o,(fun _=>⟨(Br w2).drew,fun u h=>by cases h⟩),(fun u h=>by cases h),fun u h=>by cases h⟩ ?_
 simp only [pickL,List.map_cons,List.map_nil,List.filterMap_cons,List.filterMap_nil,Zd,Ze]
 iterate 6 (refine qZp.cons (v:=?_) (fun _=>Says.plain ?_ ?_) ?_;rotate_left;rfl;(intro w' hS;have c1:=hS.1;have k:=hS.2.2.1;have q0:=k.cell 0;have V:=k.cell 1;have Q:=k.cell 2;have q3:=k.cell 3;have q4:=k.cell 4;have q5:=k.cell 5;have q6:=k.cell 6;have q7:=k.cell 7;have q8:=k.cell 8;have q9:=k.cell 9;have ah:=k.cell 10;have ai:=k.cell 11;clear hS k;simp only [Zd,Ze] at q0 V Q q3 q4 q5 q6 q7 q8 q9 ah ai;go_simp;with_reducible rfl);simp only [Act.put,Zh,Zf,Zg])
 refine qZp.nil ⟨by simp,⟨?_,?_,trivial⟩,?_⟩
 ·intro x ρ W hx a9 U C
  obtain ⟨X,Y,B,T,Z,t6⟩:=C
  have h7:x 7=none:=by
   cases e:x 7 with
   | none=>rfl
   | some u=>
     obtain ⟨u',h⟩:=t6 u e;rw [hx] at h;cases h
  obtain ⟨b,_⟩:=T h7
  have a6:D<W.heap.size:=Zc ab.o b.size
  have a5:∀ u,setX x 6 u 7=none:=fun u=>by rw [qQm _ (by decide)];exact h7
  refine zZt rfl (U.1 (.tmp 13) (by simp)) (zVp _ _ _ _ _ _ _ _ _ _ _ W) ⟨(World.cell?_of_block (a:=⟨D,1,none⟩) (Below.heap_alloc W _ _ a6)).trans X,(World.frozen?_of_block (a:=⟨D,1,none⟩) (Below.heap_alloc W _ _ a6)).trans Y,B.bel ((Br W).alloc _),(fun _=>⟨b.alloc _,fun u j=>?_⟩),(fun u j=>?_),fun u j=>?_⟩
  ·rw [qQj] at j
   cases j
   exact ⟨_,rfl,Blk.new' W _ rfl _ _⟩
  ·rw [a5] at j
   cases j
  ·rw [a5] at j
   cases j
 ·intro x ρ W hx a9 U C
  obtain ⟨X,Y,B,T,Z,t6⟩:=C
  obtain ⟨b,T⟩:=T hx
  obtain ⟨u6,a1⟩:=a9 6 (by simp)
  obtain ⟨gg,rfl,ae⟩:=T u6 a1
  have K5:=H5.o.below b (Zb _) (fun _ _ _ h=>h)
  have ag:=(HM.o.bel' b).bel.size
  refine qGu rfl zBn (by decide) still_ev (U.1 (.tmp 12) (by simp)) K5 (U.2 (6,some 14,[]) (by simp) 14 _ rfl a1) ae rfl (y:=(⟨E,a,d,s,.mk ⟨H,i,hm,ha,l,c,f⟩ []⟩:Evt)) rfl (one_ev W _ ⟨E,a,d,s,.mk ⟨H,i,hm,ha,l,c,f⟩ []⟩ rfl) (by omega) (by omega) ag ?_
  intro v7 w7 o7 g7 f7
  obtain ⟨r1,r2,M⟩:=dif_push (HM.o.bel' b) (H1.o.bel b) (H2.o.bel b) H6.o H7.o H8.o K5 X Y g7 o7 f7
  obtain ⟨za,zc,rfl,_,_⟩:=Rf o7.read
  refine ⟨r1,r2,B.of (g7.block _ B.lt (fun e=>ac.o e.symm)),(fun h=>?_),(fun u j=>?_),fun u j=>⟨_,by rw [qQm _ (by decide)];exact a1⟩⟩
  ·rw [qQj] at h
   cases h
  ·rw [qQj] at j
   cases j
   exact ⟨⟨_,_,_,rfl⟩,M⟩
 ·intro ad w8 C
  obtain ⟨X,Y,B,T,Z,t6⟩:=C
  obtain ⟨⟨za,zn,zc,e7⟩,M⟩:=Z (ad 7) rfl
  simp only [List.foldl_cons,List.foldl_nil,Zh,Zf,Zg]
  rw [e7] at M ⊢
  have HF:=lH M
  clear M B T Z t6 e7
  go_wp2
  go_end0
  exact ⟨⟨_,rfl⟩,HF.o⟩
theorem Dif.guard {L:List Int} (M:Dif w0 D w1 L t evs) (c:Bel w1 w) {Q:Nat->Prop} (d:∀ b,Q b->w1.heap.size<=b/\b<w.heap.size):Dif ⟨w0.toWorld,(fun b=>w0.P b∨Q b),w⟩ D w L t evs:=by
 have l:D<w1.heap.size:=by
  obtain ⟨S,lab,ov,k,K,_⟩:=M.st;exact K.lt
 have a:=M.bel' c;obtain ⟨S,lab,ov,k,K,i,j,f,m,p,q⟩:=M.st;refine ⟨a.wf,a.heads,a.fits,a.le,a.bel,⟨S,lab,ov,k.bel c,K.bel c,(World.cell?_of_block (a:=⟨D,1,none⟩) (c.block _ l)).trans i,(World.frozen?_of_block (a:=⟨D,1,none⟩) (c.block _ l)).trans j,f.below c (Zb _) (fun _ _ _ h=>h),m,p,fun b H=>?_⟩,a.blk,fun b H=>⟨rfl,?_⟩⟩
 ·rcases H with H | H
  ·exact q b H
  ·have r:=(d b H).1;exact ⟨by omega,fun e=>by have:=(f.lt _ e).2;omega,fun n g e=>by have:=((k n g).1.lt _ e).2;omega⟩
 ·rcases H with H | H
  ·exact (a.kept b H).2
  ·exact (d b H).2
