/- engine.Own: walked. -/
import Derived.Test.YtkhkbifdakikcaaGreatDoorDomOwn
import Derived.Test.YtkhkbifdakikcaaGreatDoorTreeItems
set_option maxRecDepth 100000
set_option maxHeartbeats 4000000
namespace Go.Proofs.YtkhkbifdakikcaaGreatDoor
open Go.RowKit
variable {x:Ans} {d:Dc} {dirty:List Int} {told:List It} {gg h i j k lo n:Nat} {u v:Value} {W w w' w'' w1:World}
theorem ownP_in {base:Nat} (h:OwnP base w v d):qKc (fun b=>base<=b/\b<w.heap.size) w v d:=by
 obtain ⟨l,c,_⟩:=h;have r:qQa 9 (qYp l base) (fun b=>base<=b/\b<w.heap.size) w v d.zipIdx:=c.row.mono (fun _ H=>⟨H.1,H.2.1⟩) (fun _ _ _ h=>h);have:=qQa.map (rd':=qDj (fun b=>base<=b/\b<w.heap.size)) (·.1) r (fun C x _ r=>by
  obtain ⟨a,K,s,e,R,f,g⟩:=r;exact ⟨a,K,s,e,R.1.row.mono (fun _ H=>⟨H.1,H.2.1⟩) (fun _ _ _ h=>h),f.1.row.mono (fun _ H=>⟨H.1,H.2.1⟩) (fun _ _ _ h=>h),g.1.row.mono (fun _ H=>⟨H.1,H.2.1⟩) (fun _ _ _ h=>h)⟩)
 rw [zYe] at this;exact this
def zBh (n:Nat) (x:Ans) (lo hi:Nat):Prop:=n<=lo/\∀ gg,x 10=some (.pointer (some ⟨gg,0,none⟩))->¬ (lo<=gg/\gg<hi)
def qF1 (n:Nat) (x:Ans) (lo hi:Nat):Prop:=zBh n x lo hi/\∀ u b,x 8=some u->u.ownBlock=some b->¬ (lo<=b/\b<hi)
def EoT (w1:World) (k:Nat) (d:Dc) (told:List It) (dirty:List Int) (x:Ans) (W:World):Prop:=
 Bel w1 W/\(∀ u,x 2=some u->∃ lo hi,hi<=W.heap.size/\qKc (fun b=>lo<=b/\b<hi) W u d/\qF1 w1.heap.size x lo hi)/\(∀ u,x 5=some u->∃ lo hi,hi<=W.heap.size/\ItsK (fun b=>lo<=b/\b<hi) k W u told/\qF1 w1.heap.size x lo hi)/\(∀ u,x 8=some u->qQb 1 qQf w1.heap.size 3 W u dirty/\∃ lo hi,hi<=W.heap.size/\(∀ b,u.ownBlock=some b->lo<=b/\b<hi)/\zBh w1.heap.size x lo hi) /\
 (∀ u,x 9=some u->∃ a b c,x 2=some a/\x 5=some b/\x 8=some c/\u=.agg #[a,b,.slice none 0 0,c])/\∀ u,x 10=some u->∃ gg,u=.pointer (some ⟨gg,0,none⟩)/\w1.heap.size<=gg/\Blk W gg [.slice none 0 0,.slice none 0 0,.slice none 0 0,.slice none 0 0] 30
theorem EoT.bel {m:World} (h:EoT w1 k d told dirty x W) (H:Bel W m):EoT w1 k d told dirty x m:=by
 obtain ⟨o,p,r,s,t,y⟩:=h;refine ⟨Bt o H,fun u e=>?_,fun u e=>?_,fun u e=>?_,t,fun u e=>?_⟩
 ·obtain ⟨lo,f,q,Q,g⟩:=p u e;exact ⟨lo,f,Za q H.size,Q.agree (fun b l=>H.block b (Zc l.2 q)),g⟩
 ·obtain ⟨lo,f,q,Q,g⟩:=r u e;exact ⟨lo,f,Za q H.size,Q.agree (fun b l=>H.block b (Zc l.2 q)),g⟩
 ·obtain ⟨z,lo,f,q,Q,g⟩:=s u e;exact ⟨z.below H (Zb _) (fun _ _ _ h=>h),lo,f,Za q H.size,Q,g⟩
 ·obtain ⟨gg,a,b,c⟩:=y u e;exact ⟨gg,a,b,c.bel H⟩
theorem qB5 (H:i≠10) (q:zBh n x lo h):zBh n (setX x i u) lo h:=⟨q.1,fun gg e=>q.2 gg (by rwa [qQm _ (Ne.symm H)] at e)⟩
theorem zQh (a:i≠10) (H:i≠8) (q:qF1 n x lo h):qF1 n (setX x i u) lo h:=⟨qB5 a q.1,fun v b e=>q.2 v b (by rwa [qQm _ (Ne.symm H)] at e)⟩
theorem EoT.free8 (h:EoT w1 k d told dirty x W) (a:Nat):zBh w1.heap.size x W.heap.size a:=⟨h.1.size,fun gg e q=>by
 obtain ⟨g,E,_,H⟩:=h.2.2.2.2.2 _ e;cases E;have:=H.lt;omega⟩
theorem EoT.free (h:EoT w1 k d told dirty x W) (H:Nat):qF1 w1.heap.size x W.heap.size H:=⟨h.free8 H,fun u b e a f=>by
 obtain ⟨_,l,c,Q,q,_⟩:=h.2.2.2.1 u e;have:=q b a;omega⟩
theorem EoT.other {g:World} (l:EoT w1 k d told dirty x g) (m:Bel g W) (p:x i=none) (J:i≠9) (f:i≠10) (B:i=2->qKc (fun b=>g.heap.size<=b/\b<W.heap.size) W u d) (C:i=5->ItsK (fun b=>g.heap.size<=b/\b<W.heap.size) k W u told) (G:i=8->qQb 1 qQf g.heap.size 3 W u dirty):EoT w1 k d told dirty (setX x i u) W:=by
 have A:∀ lo H,H<=g.heap.size->qF1 w1.heap.size x lo H->qF1 w1.heap.size (setX x i u) lo H:=fun lo H P q=>by
  by_cases e:i=8
  ·subst e;refine ⟨qB5 f q.1,fun v b e o R=>?_⟩;rw [qQj] at e;cases e;have:=((G rfl).lt b o).1;omega
  ·exact zQh f e q
 have z:=l.free W.heap.size;have K:=l.free8 W.heap.size;have M:=l.2.1;have N:=l.2.2.1;have O:=l.1.size;obtain ⟨D,_,_,E,F,I⟩:=l.bel m;refine ⟨D,fun v hv=>?_,fun v hv=>?_,fun v hv=>?_,fun v hv=>?_,fun v hv=>I v (by rwa [qQm _ (Ne.symm f)] at hv)⟩
 ·by_cases e:i=2
  ·subst e;rw [qQj] at hv;cases hv;exact ⟨_,_,Zb _,B rfl,zQh f (by decide) z⟩
  ·rw [qQm _ (Ne.symm e)] at hv;obtain ⟨lo,H,a,b,c⟩:=M v hv;exact ⟨lo,H,Za a m.size,b.agree (fun y r=>m.block y (Zc r.2 a)),A _ _ a c⟩
 ·by_cases e:i=5
  ·subst e;rw [qQj] at hv;cases hv;exact ⟨_,_,Zb _,C rfl,zQh f (by decide) z⟩
  ·rw [qQm _ (Ne.symm e)] at hv;obtain ⟨lo,H,a,b,c⟩:=N v hv;exact ⟨lo,H,Za a m.size,b.agree (fun y r=>m.block y (Zc r.2 a)),A _ _ a c⟩
 ·by_cases e:i=8
  ·subst e;rw [qQj] at hv;cases hv;exact ⟨(G rfl).base_le O,_,_,Zb _,(fun b o=>(G rfl).lt b o),qB5 f K⟩
  ·rw [qQm _ (Ne.symm e)] at hv;obtain ⟨q,lo,H,a,b,c⟩:=E v hv;exact ⟨q,lo,H,a,b,qB5 f c⟩
 ·rw [qQm _ (Ne.symm J)] at hv;obtain ⟨a,b,c,Q,s,t,_⟩:=F v hv;exact ⟨a,b,c,by rw [qQm _ (fun e=>by subst e;rw [p] at Q;cases Q)];exact Q,by rw [qQm _ (fun e=>by subst e;rw [p] at s;cases s)];exact s,by rw [qQm _ (fun e=>by subst e;rw [p] at t;cases t)];exact t,by assumption⟩
theorem zKk (a b c:Option Addr) (N f g C e c3:Nat) (w:World):(Instr.build 30 #[(0,.slice a N C),(1,.slice b f e),(3,.slice c g c3)]).run Tryz.prog w=.ok (.agg #[.slice a N C,.slice b f e,.slice none 0 0,.slice c g c3]) w:=by kernel_rfl
theorem zKb (w:World):(Instr.alloc 30 true (.tuple #[])).run Tryz.prog w=.ok (.pointer (some ⟨w.heap.size,0,none⟩)) (w.alloc (.cells #[.slice none 0 0,.slice none 0 0,.slice none 0 0,.slice none 0 0] 30)):=by kernel_rfl
theorem zYp {P:Program} {a:Operand->Value} {o:Oper} {t:TypeId} {l:Nat} {x y z:Operand} (b:o.op=.build t #[(i,x),(j,y),(l,z)]) {X Y Z:Value} (c:a x=X) (f:a y=Y) (g:a z=Z) (r:(Instr.build t #[(i,X),(j,Y),(l,Z)]).run P w=.ok v w')
 {R:Value->World->Prop} (H:R v w'):qW0 P R ((execOp a o).run P w):=by
 have e:(execOp a o).run P w=.ok (.value v) w':=by
  unfold execOp;simp [b,c,f,g,r]
 rw [e];exact H
theorem zF3 (args:Array Value) (w:World):(callFunc 44 args).run Tryz.prog w=.ok (.enter 44 args) w:=by kernel_rfl
theorem zZi (args:Array Value) (w:World):(callFunc 12 args).run Tryz.prog w=.ok (.enter 12 args) w:=by kernel_rfl
theorem cf_clone (args:Array Value) (w:World):(callFunc 49 args).run Tryz.prog w=.ok (.enter 49 args) w:=by kernel_rfl
theorem qXr:∃ d,Tryz.prog.underlying 30=some d/\(match d with | .struct _ | .array _ _=>true | _=>false)=true:=by
 have h:(match Tryz.prog.underlying 30 with | some d=>(match d with | .struct _ | .array _ _=>true | _=>false) | none=>false)=true:=by kernel_rfl
 cases e:Tryz.prog.underlying 30 with
 | none=>rw [e] at h;cases h
 | some d=>rw [e] at h;exact ⟨d,rfl,h⟩
theorem zQf:SlT Tryz.prog 27 60 4 64:=by
 refine ⟨by kernel_rfl,?_⟩;obtain ⟨i,H,a,b,c⟩:=info_parts (by kernel_rfl:(Tryz.prog.info? 60).map (fun i=>(i.zero,i.size,i.bytes))=some (some (.agg #[.int .i64 0,.string ⟨#[]⟩,.string ⟨#[]⟩,.slice none 0 0]),4,64));exact ⟨i,_,H,a,b,c,rfl⟩
structure FrE (gg:Nat) (w w':World):Prop where
 os:w'.os=w.os
 tape:w'.tape=w.tape
 output:w'.output=w.output
 size:w.heap.size<=w'.heap.size
 block:∀ b,b<w.heap.size->b≠gg->w'.heap[b]?=w.heap[b]?
theorem FrE.refl (gg:Nat) (w:World):FrE gg w w:=⟨rfl,rfl,rfl,Zb _,fun _ _ _=>rfl⟩
theorem FrE.bel (h:FrE gg w w') (H:Bel w1 w) (hg:w1.heap.size<=gg):Bel w1 w':=
 ⟨h.os.trans H.os,h.tape.trans H.tape,h.output.trans H.output,Za H.size h.size,fun b t=>(h.block b (Zc t H.size) (by omega)).trans (H.block b t)⟩
theorem FrE.then (h:FrE gg w w') (H:Bel w' w''):FrE gg w w'':=
 ⟨H.os.trans h.os,H.tape.trans h.tape,H.output.trans h.output,Za h.size H.size,fun b t e=>(H.block b (Zc t h.size)).trans (h.block b t e)⟩
theorem FrE.set (h:FrE gg w w') (v:Value):FrE gg w (w'.setCell ⟨gg,j,none⟩ v):=
 ⟨h.os,h.tape,h.output,by simpa using h.size,fun b t H=>by rw [Below.heap_setCell _ _ _ b H];exact h.block b t H⟩
theorem FrE.grown {r:Option Nat} (h:FrE gg w w') (hg:w'.grownBy w'' r) (c:∀ k,r=some k->w.heap.size<=k):FrE gg w w'':=
 ⟨hg.os.trans h.os,hg.tape.trans h.tape,hg.output.trans h.output,Za h.size hg.size,fun b H a=>(hg.block b (Zc H h.size) (fun e=>by have:=c b e.symm;omega)).trans (h.block b H a)⟩
def rdMO (base:Nat):World->List Value->Me×Value->Prop:=fun w cs p=>cs=qH3 p.1 p.2/\qQb 1 qQf base 3 w p.2 p.1.uses
theorem zFw {m:Me} (hv:v.oneCell'=true):∀ u∈qH3 m v,u.oneCell'=true:=by
 intro u H;simp [qH3] at H;rcases H with rfl | rfl | rfl | rfl <;> first | rfl | exact hv
theorem qVw {m:Nat} {dv tv mv iv:Value} {M:List Me} (hd:qZh m w dv d) (ht:ItsK (·<m) k w tv told) (ap:qKb (·<m) w mv M) (q:qKn m w iv dirty) (hm:m<=w.heap.size)
 (cj:d.length<=1000) (bk:∀ x∈d,x.attrs.length<=1000/\x.kids.length<=1000/\x.shadow.length<=1000) (co:(nodesL told).length<=1000000000) (cy:M.length<=1000000000) (av:∀ x∈M,x.uses.length<=1000000000) (cm:dirty.length<=1000000000) :
 Calls Tryz.prog 19 #[.agg #[dv,tv,mv,iv]] w (Rn w fun w' y=>∃ bb bq bp a5,y=.agg #[bb,bq,bp,a5]/\qKc (fun b=>(w.heap.size<=b/\b<w'.heap.size)/\a5.ownBlock≠some b) w' bb d/\ItsK (fun b=>(w.heap.size<=b/\b<w'.heap.size)/\a5.ownBlock≠some b) k w' bq told/\qKb (fun b=>(w.heap.size<=b/\b<w'.heap.size)/\a5.ownBlock≠some b) w' bp M/\qQb 1 qQf w.heap.size 3 w' a5 dirty):=by
 obtain ⟨da,dc,rfl,_,_⟩:=Rf hd;obtain ⟨ta,tc,rfl,_,_⟩:=Rf ht;obtain ⟨ma,mc,rfl,_,_⟩:=Rf ap;obtain ⟨ia,ic,rfl,_,_⟩:=Rf q;obtain ⟨w1,a4⟩:∃ w1,w1=(w.alloc (.cells #[.slice da d.length dc,.slice ta told.length tc,.slice ma M.length mc,.slice ia dirty.length ic] 30)).alloc (.cells #[.slice none 0 0,.slice none 0 0,.slice none 0 0,.slice none 0 0] 30):=⟨_,rfl⟩;have V:Bel w w1:=by rw [a4];exact ((Br w).alloc _).alloc _
 have bd:Blk w1 w.heap.size [.slice da d.length dc,.slice ta told.length tc,.slice ma M.length mc,.slice ia dirty.length ic] 30:=by rw [a4];exact (Blk.new' w _ rfl _ _).bel ((Br _).alloc _)
 have be:Blk w1 (w.heap.size+1) [.slice none 0 0,.slice none 0 0,.slice none 0 0,.slice none 0 0] 30:=by rw [a4];exact Blk.new' _ _ (by simp) _ _
 have cD:Hi (∀ W,Bel w1 W->Calls Tryz.prog 44 #[.slice da d.length dc] W (Rn W fun w' y=>qKc (fun b=>W.heap.size<=b/\b<w'.heap.size) w' y d)):=lH (fun W E=>(qGe m _ d W (hd.later (Bt V E) hm) (Za hm (Bt V E).size) cj bk).mono (fun e w' h=>by
  obtain ⟨r,v,G,I⟩:=h;exact ⟨r,v,G,ownP_in I⟩))
 have cT:Hi (∀ W,Bel w1 W->Calls Tryz.prog 12 #[.slice ta told.length tc] W (Rn W fun w' y=>ItsK (fun b=>W.heap.size<=b/\b<w'.heap.size) k w' y told)):=lH (fun W E=>(qXq k m _ told W (ht.later (Bt V E) hm) (Za hm (Bt V E).size) co).mono (fun e w' h=>by
  obtain ⟨r,v,G,a9,I⟩:=h;exact ⟨r,v,G,I.its.mono (fun b f=>I.lt b f)⟩))
 have cI:Hi (∀ W,Bel w1 W->Calls Tryz.prog 49 #[.slice ia dirty.length ic] W (Rn W fun w' y=>qQb 1 qQf W.heap.size 3 w' y dirty)):=lH (fun W E=>qZy m _ dirty W (qQa.later q qQc (Bt V E) hm) (Za hm (Bt V E).size) cm);have ai:=lH V;have a7:=lH bd;have b2:=lH be;have bz:=lH (ap.later V hm);have c7:=lH av;clear hd ht ap q V bd be bk av;go_enter Tryz.func19,Tryz.ntmps19
 go_upto_region 1 with fail
 rw [<- a4];clear a4;refine qQ6 [0,1,3,4,6,7] [(2,some 8,[]),(5,some 11,[]),(8,some 14,[]),(9,some 15,[2,5,8]),(10,some 3,[])] [11] (EoT w1 k d told dirty) (by kernel_rfl) (by kernel_rfl) ⟨(Br w1).drew,(fun u h=>by cases h),(fun u h=>by cases h),(fun u h=>by cases h),(fun u h=>by cases h),fun u h=>by cases h⟩ ?_;simp only [pickL,List.map_cons,List.map_nil,List.filterMap_cons,List.filterMap_nil,Zd,Ze];iterate 6 (refine qZp.cons (v:=?_) (fun _=>Says.plain ?_ ?_) ?_;rotate_left;rfl;(intro w' hS;have c0:=(a7.o.bel hS.1).cell 0;have c1:=(a7.o.bel hS.1).cell 1;have c3:=(a7.o.bel hS.1).cell 3;simp only [Zd,Ze] at c0 c1 c3;clear hS;go_simp;with_reducible rfl);simp only [Act.put,Zh,Zf,Zg])
 refine qZp.nil ⟨by simp,⟨?_,?_,?_,?_,?_,trivial⟩,?_⟩
 ·intro x ρ W hx hn H T;refine qHe rfl (H.1 _ (fun _ _ _ _ h=>by cases h)) (args:=#[.slice da d.length dc]) ?_ zF3 ((cD.o W T.1).mono ?_)
  ·simp only [List.map_toArray,List.map_cons,List.map_nil];rw [H.1 (.tmp 7) (by simp)];rfl
  ·rintro e w' ⟨f,v,rfl,ho⟩;exact ⟨v,rfl,T.other f hx (by decide) (by decide) (fun _=>ho) (fun h=>by cases h) (fun h=>by cases h)⟩
 ·intro x ρ W hx hn H T;refine qHe rfl (H.1 _ (fun _ _ _ _ h=>by cases h)) (args:=#[.slice ta told.length tc]) ?_ zZi ((cT.o W T.1).mono ?_)
  ·simp only [List.map_toArray,List.map_cons,List.map_nil];rw [H.1 (.tmp 10) (by simp)];rfl
  ·rintro e w' ⟨f,v,rfl,ho⟩;exact ⟨v,rfl,T.other f hx (by decide) (by decide) (fun h=>by cases h) (fun _=>ho) (fun h=>by cases h)⟩
 ·intro x ρ W hx hn H T;refine qHe rfl (H.1 _ (fun _ _ _ _ h=>by cases h)) (args:=#[.slice ia dirty.length ic]) ?_ cf_clone ((cI.o W T.1).mono ?_)
  ·simp only [List.map_toArray,List.map_cons,List.map_nil];rw [H.1 (.tmp 13) (by simp)];rfl
  ·rintro e w' ⟨f,v,rfl,ho⟩;exact ⟨v,rfl,T.other f hx (by decide) (by decide) (fun h=>by cases h) (fun h=>by cases h) (fun _=>ho)⟩
 ·intro x ρ W hx hn H T;obtain ⟨ua,aq⟩:=hn 2 (by simp);obtain ⟨ub,ar⟩:=hn 5 (by simp);obtain ⟨uc,au⟩:=hn 8 (by simp);obtain ⟨r,G,I,h4,h5,h6⟩:=T;obtain ⟨_,_,_,Q,_⟩:=G ua aq;obtain ⟨_,_,_,q5,_⟩:=I ub ar;obtain ⟨B,c1,e1,_,_⟩:=Rf Q;obtain ⟨C,c2,S,_,_⟩:=Rf q5;obtain ⟨A,c3,e3,_,_⟩:=Rf (h4 uc au).1.read;subst e1 S e3;refine zYp rfl (H.2 (2,some 8,[]) (by simp) 8 _ rfl aq) (H.2 (5,some 11,[]) (by simp) 11 _ rfl ar) (H.2 (8,some 14,[]) (by simp) 14 _ rfl au) (zKk _ _ _ _ _ _ _ _ _ W) ⟨r,(fun u g=>?_),(fun u g=>?_),(fun u g=>?_),(fun u g=>?_),fun u g=>h6 u (by rwa [qQm _ (by decide)] at g)⟩
  ·obtain ⟨lo,q,a,b,c⟩:=G u (by rwa [qQm _ (by decide)] at g);exact ⟨lo,q,a,b,zQh (by decide) (by decide) c⟩
  ·obtain ⟨lo,q,a,b,c⟩:=I u (by rwa [qQm _ (by decide)] at g);exact ⟨lo,q,a,b,zQh (by decide) (by decide) c⟩
  ·obtain ⟨a6,lo,q,a,b,c⟩:=h4 u (by rwa [qQm _ (by decide)] at g);exact ⟨a6,lo,q,a,b,qB5 (by decide) c⟩
  ·rw [qQj] at g;cases g;exact ⟨_,_,_,by rw [qQm _ (by decide)];exact aq,by rw [qQm _ (by decide)];exact ar,by rw [qQm _ (by decide)];exact au,rfl⟩
 ·intro x ρ W hx hn H T;have am:∀ lo q u,w1.heap.size<=lo->q<=W.heap.size->setX x 10 u=setX x 10 (.pointer (some ⟨W.heap.size,0,none⟩))->zBh w1.heap.size (setX x 10 u) lo q:=fun lo q u hl hh e=>⟨hl,fun gg hg hq=>by
   rw [e,qQj] at hg;cases hg;omega⟩
  have hs:(W.alloc (.cells #[.slice none 0 0,.slice none 0 0,.slice none 0 0,.slice none 0 0] 30)).heap.size=W.heap.size+1:=by simp
  have ad:=T;obtain ⟨r,G,I,h4,h5,h6⟩:=T.bel ((Br W).alloc (.cells #[.slice none 0 0,.slice none 0 0,.slice none 0 0,.slice none 0 0] 30));refine zZq rfl (zKb W) ⟨r,(fun u g=>?_),(fun u g=>?_),(fun u g=>?_),(fun u g=>?_),fun u g=>?_⟩
  ·rw [qQm _ (by decide)] at g;obtain ⟨lo,q,a,b,c⟩:=ad.2.1 u g;exact ⟨lo,q,by omega,b.agree (fun y hy=>Below.heap_alloc W _ y (Zc hy.2 a)),am _ _ _ c.1.1 a rfl,fun v b e=>c.2 v b (by rwa [qQm _ (by decide)] at e)⟩
  ·rw [qQm _ (by decide)] at g;obtain ⟨lo,q,a,b,c⟩:=ad.2.2.1 u g;exact ⟨lo,q,by omega,b.agree (fun y hy=>Below.heap_alloc W _ y (Zc hy.2 a)),am _ _ _ c.1.1 a rfl,fun v b e=>c.2 v b (by rwa [qQm _ (by decide)] at e)⟩
  ·rw [qQm _ (by decide)] at g;obtain ⟨a6,lo,q,a,b,c⟩:=ad.2.2.2.1 u g;exact ⟨(h4 u g).1,lo,q,by omega,b,am _ _ _ c.1 a rfl⟩
  ·rw [qQm _ (by decide)] at g;obtain ⟨a,b,c,q1,Q,q3,q4⟩:=h5 u g;exact ⟨a,b,c,by rw [qQm _ (by decide)];exact q1,by rw [qQm _ (by decide)];exact Q,by rw [qQm _ (by decide)];exact q3,q4⟩
  ·rw [qQj] at g;cases g;exact ⟨_,rfl,ad.1.size,Blk.new' W _ rfl _ _⟩
 ·intro U o T;simp only [List.foldl_cons,List.foldl_nil] at T;obtain ⟨hb2,g2,g5,g8,g9,cb⟩:=T;obtain ⟨gg,a3,bl,D⟩:=cb _ (qQj ..);obtain ⟨xa,xb,xc,q1,Q,q3,bh⟩:=g9 (U 9) (by repeat (first | rw [qQj] | rw [qQm _ (by decide)]));have S:xa=U 2:=by
   repeat (first | rw [qQj] at q1 | rw [qQm _ (by decide)] at q1)
   exact (Option.some.inj q1).symm
  have e5:xb=U 5:=by
   repeat (first | rw [qQj] at Q | rw [qQm _ (by decide)] at Q)
   exact (Option.some.inj Q).symm
  have e8:xc=U 8:=by
   repeat (first | rw [qQj] at q3 | rw [qQm _ (by decide)] at q3)
   exact (Option.some.inj q3).symm
  subst S e5 e8;obtain ⟨cr,ck,l2,aa,f2⟩:=g2 (U 2) (by repeat (first | rw [qQj] | rw [qQm _ (by decide)]));obtain ⟨cs,cl,l5,ab,F⟩:=g5 (U 5) (by repeat (first | rw [qQj] | rw [qQm _ (by decide)]));obtain ⟨ac,d1,cx,l8,ak,f8⟩:=g8 (U 8) (by repeat (first | rw [qQj] | rw [qQm _ (by decide)]));have L2:=lH f2.1.1;have A2:=lH (f2.2 (U 8) · (by repeat (first | rw [qQj] | rw [qQm _ (by decide)])));have f2:=f2.1.2 gg (by rw [qQj,a3]);have L5:=lH F.1.1;have A5:=lH (F.2 (U 8) · (by repeat (first | rw [qQj] | rw [qQm _ (by decide)])));have F:=F.1.2 gg (by rw [qQj,a3]);have L8:=lH f8.1;have f8:=f8.2 gg (by rw [qQj,a3]);obtain ⟨B,J,e1,_,_⟩:=Rf aa;obtain ⟨C,K,S,_,_⟩:=Rf ab;obtain ⟨A,P,e3,_,_⟩:=Rf ac.read;simp only [List.foldl_cons,List.foldl_nil,Zh,Zf,Zg];have br:∀ b,(Value.slice A dirty.length P).ownBlock=some b->¬ (cr<=b/\b<ck):=fun b f=>A2.o b (by rw [e3];exact f);have bs:∀ b,(Value.slice A dirty.length P).ownBlock=some b->¬ (cs<=b/\b<cl):=fun b f=>A5.o b (by rw [e3];exact f);rw [a3,bh,e1,S,e3];clear A2 A5;clear cD cT cI;have n0:=D.cell 0;have n1:=D.cell 1;have n2:=D.cell 2;have n3:=D.cell 3;have f0:=D.frozen 0;have f1:=D.frozen 1;have ca:=D.frozen 2;have f3:=D.frozen 3;simp only [Zd,Ze] at n0 n1 n2 n3;have b0:Hi (Blk ((((o.setCell ⟨gg,0,none⟩ (.slice B d.length J)).setCell ⟨gg,1,none⟩ (.slice C told.length K)).setCell ⟨gg,2,none⟩ (.slice none 0 0)).setCell ⟨gg,3,none⟩ (.slice A dirty.length P)) gg [.slice B d.length J,.slice C told.length K,.slice none 0 0,.slice A dirty.length P] 30):=lH ((((D.set 0 _).set 1 _).set 2 _).set 3 _);have cw:=D.lt;rw [e1] at aa;rw [S] at ab;rw [e3] at ac ak;have HX:Hi (FrE gg o ((((o.setCell ⟨gg,0,none⟩ (.slice B d.length J)).setCell ⟨gg,1,none⟩ (.slice C told.length K)).setCell ⟨gg,2,none⟩ (.slice none 0 0)).setCell ⟨gg,3,none⟩ (.slice A dirty.length P))):=lH (((((FrE.refl gg o).set _).set _).set _).set _);have G2:=lH aa;have G5:=lH ab;have G8:=lH ac;have ah:=lH ak;have F2:=lH f2;have F5:=lH F;have F8:=lH f8;have aj:=lH hb2;clear g2 g5 g8 g9 bh a3 aa ab ac ak D e1 S e3 q1 Q q3 hb2;go_upto_region 2 with fail
  clear n0 n1 n2 n3 f0 f1 ca f3 f2 F f8;refine qQt (E:=fun W'=>Blk W' gg [.slice B d.length J,.slice C told.length K,.slice none 0 0,.slice A dirty.length P] 30/\FrE gg o W') ⟨b0.o,HX.o⟩ ?_;clear b0 HX;rintro w5 ⟨bf,al⟩;have bt:=lH (al.bel aj.o bl);have bw:=lH bf;have bu:=lH al;have s2:=(a7.o.bel bt.o).cell 2;simp only [Zd,Ze] at s2;clear bf al;go_upto_region 3 with fail
  go_loopw [19] (fun ax wr=>∃ (j:Nat) (vm:Value) (s:List Value),j<=M.length/\ax=.int .i64 j/\s.length=j/\Blk wr gg [.slice B d.length J,.slice C told.length K,vm,.slice A dirty.length P] 30/\qQb 4 (rdMO o.heap.size) o.heap.size 60 wr vm ((M.take j).zip s)/\(∀ u∈s,∀ b,u.ownBlock=some b->b<wr.heap.size/\vm.ownBlock≠some b)/\FrE gg o wr) (fun ax _=>M.length - (intOf ax).toNat)
  case atStart=>exact ⟨0,_,[],by omega,rfl,rfl,bw.o,qQb.nil _ _ _,by simp,bu.o⟩
  case round=>
   obtain ⟨j,vm,s,hj,rfl,av,hK,hO,hU,hF⟩:=hrel;have aw:((M.take j).zip s).length=j:=(by simp;omega);obtain ⟨O,t,rfl,o1,o2⟩:=Rf hO.read;rw [aw] at o1 hO hK hU;have hB:=hF.bel aj.o bl;have HO:=lH hO;have HK:=lH hK;have HU:=lH hU;have HF:=lH hF;have HB:=lH hB;clear hO hK hU hF hB;by_cases ao:j<M.length
   ·have bn:m<=w1.heap.size:=Za hm ai.o.size;have b6:=bz.o.later HB.o bn;obtain ⟨b,d6,cv,uv,e1,_,_,f,hI⟩:=b6.item j ao;simp at e1;obtain ⟨rfl,rfl⟩:=e1;have c0:=hI.node;have c1:=hI.name;have c2:=hI.about;have c3:=hI.uses;obtain ⟨xa,xc,rfl,x1,x2⟩:=Rf hI.usesAt;have bi:=c7.o _ (Zl ao);have bo:m<=wr.heap.size:=Za bn HB.o.size;have HC:Hi (∀ W,Bel wr W->Calls Tryz.prog 49 #[.slice xa M[j].uses.length xc] W (Rn W fun w' y=>qQb 1 qQf W.heap.size 3 w' y M[j].uses)):=lH (fun W E=>qZy m _ _ W (qQa.later hI.usesAt qQc E bo) (Za bo E.size) bi);have HT:Hi (∀ a9,(M.take (j+1)).zip (s++[a9])=(M.take j).zip s++[(M[j],a9)]):=lH (fun a9=>by rw [Zk ao,List.zip_append (by simp;omega)];rfl);clear hI b6;generalize M[j]=c9 at *
    obtain ⟨xn,xm,xb,X⟩:=c9;simp only at c0 c1 c2 c3 HC bi x1;have hN:=Blk.new' wr wr.heap.size rfl #[.int .i64 xn,.string ⟨xm.toArray⟩,.string ⟨xb.toArray⟩,.slice xa X.length xc] 60;have bg:Bel wr (wr.alloc (.cells #[.int .i64 xn,.string ⟨xm.toArray⟩,.string ⟨xb.toArray⟩,.slice xa X.length xc] 60)):=(Br wr).alloc _;have HN:=lH hN;have b7:=lH bg;clear hN bg;go_upto_region 6 with (go_at_call 49;(with_reducible refine (HC.o _ b7.o).mono ?_);rintro e w3 ⟨b3,y3,rfl,o3⟩;obtain ⟨Y,Z,rfl,y1,de⟩:=Rf o3.read;have ay:=lH b3;have b9:=lH o3;have ag:=HN.o.bel b3;have c4:=lH ag;have n3:w3.cell? ⟨wr.heap.size,3,none⟩=some (.slice xa X.length xc):=ag.cell 3;have f3:w3.frozen? ⟨wr.heap.size,3,none⟩=false:=ag.frozen 3;clear b3 o3 ag)
    have S2:=HF.o.size;have S3:=ay.o.size;simp only [World.size_alloc] at S3;have bc:Bel wr (w3.setCell ⟨wr.heap.size,3,none⟩ (.slice Y X.length Z)):=Bel.setCell (Bt b7.o ay.o) _ _ _ (Zb _);have a2:=c4.o.set 3 (.slice Y X.length Z);have ae:=b9.o.lt;simp only [World.size_alloc] at ae;have bj:qQb 1 qQf o.heap.size 3 (w3.setCell ⟨wr.heap.size,3,none⟩ (.slice Y X.length Z)) (.slice Y X.length Z) X:=
     (b9.o.base_le (by simp;omega)).agree (fun b l=>Below.heap_setCell w3 _ _ b (by show b≠wr.heap.size;have:=ae b l;omega)) (fun _ _ _ H=>H)
    have bm:(w3.setCell ⟨wr.heap.size,3,none⟩ (.slice Y X.length Z)).heap.size=w3.heap.size:=World.size_setCell ..;have a0:=lH bc;have c8:=lH bj;have ba:=lH ae;have b5:=lH bm;have n0:=a2.cell 0;have n1:=a2.cell 1;have n2:=a2.cell 2;have ct:=a2.cell 3;simp at n0 n1 n2 ct;clear bc bj ae bm a2 n3 f3;generalize (w3.setCell ⟨wr.heap.size,3,none⟩ (.slice Y X.length Z))=w4 at *
    have c5:Hi (qQb 4 (fun W N p=>rdMO o.heap.size W N p/\∀ b,p.2.ownBlock=some b->b<w4.heap.size/\(Value.slice O j t).ownBlock≠some b) o.heap.size 60 w4 (.slice O j t) ((M.take j).zip s)):=lH (HO.o.redo (fun b l=>a0.o.block b (HO.o.lt b l).2) (fun N p hp H=>⟨⟨H.1,H.2.agree (fun b l=>a0.o.block b (H.2.lt b l).2) (fun _ _ _ h=>h)⟩,fun b l=>by
     have r:=HU.o p.2 (List.of_mem_zip (a:=p.1) (b:=p.2) hp).2 b l;have G:=a0.o.size;exact ⟨by omega,r.2⟩⟩))
    have a8:Hi (∀ b,(Value.slice O j t).ownBlock=some b->o.heap.size<=b/\b<wr.heap.size):=lH (fun b l=>HO.o.lt b l);have b4:=lH (HK.o.bel a0.o);have az:=lH (HF.o.then a0.o);have S4:o.heap.size<=w4.heap.size:=az.o.size;have k2:=b4.o.cell 2;simp only [Zd,Ze] at k2;have cp:((M.take j).zip s++[((⟨xn,xm,xb,X⟩:Me),Value.slice Y X.length Z)]).length=j+1:=(by simp;omega);go_wp2_with (at_builtin;go_loud (refine qJw rfl _ _ _ rfl zQf (by decide) (rd:=fun W N p=>rdMO o.heap.size W N p/\∀ b,p.2.ownBlock=some b->b<w4.heap.size/\(Value.slice O j t).ownBlock≠some b) (v:=.slice O j t) ?hst ?hone (base:=o.heap.size) rfl c5.o rfl ?hgs (⟨xn,xm,xb,X⟩,.slice Y X.length Z) ?hC ?hby ?hmx S4 ?_;(case hst=>exact fun w' N y hg H=>⟨⟨H.1.1,H.1.2.agree (fun b l=>hg.block b (H.2 b l).1 (fun e=>(H.2 b l).2 e.symm)) (fun _ _ _ h=>h)⟩,H.2⟩);(case hone=>intro W N y H u g;rw [H.1.1] at g;exact zFw (zH3 H.1.2) u g);(case hgs=>rfl);(case hC=>refine ⟨rfl,⟨rfl,c8.o⟩,fun b l=>?_⟩;have q1:=ba.o b l;have Q:=b5.o;exact ⟨by omega,fun e=>by have:=(a8.o b e).2;omega⟩);(case hby=>rw [aw];omega);(case hmx=>rw [aw];omega);intro v5 cu o5 g5 F;obtain ⟨d9,db,rfl,d7,d8⟩:=Rf o5.read;rw [cp] at o5 F;have af:Blk cu gg _ 30:=b4.o.of (g5.block gg (by omega) (fun e=>by have:=(a8.o gg e.symm).1;omega));have cq:=af.cell 2;have d0:=af.frozen 2;simp only [Zd,Ze] at cq;have b8:=lH o5;have b1:=lH g5;have bv:=lH F;have bx:=lH af;clear o5 g5 F af))
    go_roundw;case rel=>
     have cz:=b1.o.size;refine ⟨j+1,_,s++[.slice Y X.length Z],by omega,by go_num,by simp;omega,bx.o.set 2 _,?_,?_,(az.o.grown b1.o (fun k hk=>(a8.o k hk).1)).set _⟩
     ·rw [HT.o];refine b8.o.redo (rd':=rdMO o.heap.size) (fun b l=>Below.heap_setCell _ _ _ b ?_) (fun N x _ H=>⟨H.1.1,H.1.2.agree (fun b l=>Below.heap_setCell _ _ _ b ?_) (fun _ _ _ h=>h)⟩)
      ·have:=(b8.o.lt b l).1;show b≠gg;omega
      ·have:=(H.1.2.lt b l).1;show b≠gg;omega
     ·intro u g b l;have Q:=b5.o;have q3:=a0.o.size;have r:b<w4.heap.size/\(Value.slice O j t).ownBlock≠some b:=by
       rcases List.mem_append.1 g with g | g
       ·have:=HU.o u g b l;exact ⟨by omega,this.2⟩
       ·rw [List.mem_singleton] at g;subst g;have q1:=ba.o b l;exact ⟨by omega,fun e=>by have:=(a8.o b e).2;omega⟩
      refine ⟨by rw [World.size_setCell];omega,?_⟩;rcases bv.o with e | ⟨a6,e,hq⟩
      ·rw [e];exact r.2
      ·rw [e];intro S;cases S;omega
    case measure=>simp [intOf];omega
   ·have cn:j=M.length:=(by omega);subst cn;have T:M.take M.length=M:=Zn (by omega);rw [T] at HO;have k0:=HK.o.cell 0;have k1:=HK.o.cell 1;have k2:=HK.o.cell 2;have k3:=HK.o.cell 3;simp only [Zd,Ze] at k0 k1 k2 k3;have S5:=HF.o.size;have R:=b2.o.bel HB.o;have m0:=R.cell 0;have m1:=R.cell 1;have m2:=R.cell 2;have m3:=R.cell 3;have d2:=R.frozen 0;have d3:=R.frozen 1;have d4:=R.frozen 2;have d5:=R.frozen 3;simp only [Zd,Ze] at m0 m1 m2 m3;have c6:Hi (Blk ((((wr.setCell ⟨w.heap.size+1,0,none⟩ (.slice B d.length J)).setCell ⟨w.heap.size+1,1,none⟩ (.slice C told.length K)).setCell ⟨w.heap.size+1,2,none⟩ (.slice O M.length t)).setCell ⟨w.heap.size+1,3,none⟩ (.slice A dirty.length P)) (w.heap.size+1) [.slice B d.length J,.slice C told.length K,.slice O M.length t,.slice A dirty.length P] 30):=lH ((((R.set 0 _).set 1 _).set 2 _).set 3 _);have a1:Hi (FrE (w.heap.size+1) wr ((((wr.setCell ⟨w.heap.size+1,0,none⟩ (.slice B d.length J)).setCell ⟨w.heap.size+1,1,none⟩ (.slice C told.length K)).setCell ⟨w.heap.size+1,2,none⟩ (.slice O M.length t)).setCell ⟨w.heap.size+1,3,none⟩ (.slice A dirty.length P))):=lH (((((FrE.refl _ wr).set _).set _).set _).set _);clear R;go_wp2;generalize ((((wr.setCell ⟨w.heap.size+1,0,none⟩ (.slice B d.length J)).setCell ⟨w.heap.size+1,1,none⟩ (.slice C told.length K)).setCell ⟨w.heap.size+1,2,none⟩ (.slice O M.length t)).setCell ⟨w.heap.size+1,3,none⟩ (.slice A dirty.length P))=z at *
    obtain ⟨dd,ch,ci⟩:=qXr;have S6:=a1.o.size;have S7:=aj.o.size;have S8:w.heap.size+1<w1.heap.size:=b2.o.lt;have B2:=L2.o;have B5:=L5.o;have B8:=L8.o;have an:∀ b,w1.heap.size<=b->b<o.heap.size->b≠gg->z.heap[b]?=o.heap[b]?:=fun b r G I=>(a1.o.block b (by omega) (by omega)).trans (HF.o.block b G I);have cd:qKc (fun b=>(w.heap.size<=b/\b<z.heap.size)/\(Value.slice A dirty.length P).ownBlock≠some b) z (.slice B d.length J) d:=(G2.o.agree (fun b f=>an b (by omega) (by omega) (fun e=>F2.o (e▸f)))).mono (fun b f=>⟨by omega,fun e=>br b e f⟩);have cg:ItsK (fun b=>(w.heap.size<=b/\b<z.heap.size)/\(Value.slice A dirty.length P).ownBlock≠some b) k z (.slice C told.length K) told:=(G5.o.agree (fun b f=>an b (by omega) (by omega) (fun e=>F5.o (e▸f)))).mono (fun b f=>⟨by omega,fun e=>bs b e f⟩);have ce:qQb 1 qQf w.heap.size 3 z (.slice A dirty.length P) dirty:=(G8.o.base_le ai.o.size).agree (fun b f=>by have a6:=ah.o b f;exact an b (by omega) (by omega) (fun e=>F8.o (e▸a6))) (fun _ _ _ h=>h);have cf:qKb (fun b=>(w.heap.size<=b/\b<z.heap.size)/\(Value.slice A dirty.length P).ownBlock≠some b) z (.slice O M.length t) M:=by
     have h0:=HO.o.redo (w':=z) (rd':=rdMO o.heap.size) (fun b f=>a1.o.block b (HO.o.lt b f).2 (by have:=(HO.o.lt b f).1;omega)) (fun N x _ H=>⟨H.1,H.2.agree (fun b f=>a1.o.block b (H.2.lt b f).2 (by have:=(H.2.lt b f).1;omega)) (fun _ _ _ h=>h)⟩);have H:qQa 4 (rdMO o.heap.size) (fun b=>(w.heap.size<=b/\b<z.heap.size)/\(Value.slice A dirty.length P).ownBlock≠some b) z (.slice O M.length t) (M.zip s):=h0.row.mono (fun b f=>⟨⟨by have:=f.1;omega,f.2.1⟩,fun e=>by have:=ah.o b e;have:=f.1;omega⟩) (fun _ _ _ h=>h);have:=qQa.map (rd':=rdMe (fun b=>(w.heap.size<=b/\b<z.heap.size)/\(Value.slice A dirty.length P).ownBlock≠some b)) (·.1) H (fun N x _ H=>⟨x.2,H.1,H.2.row.mono (fun b f=>⟨⟨by have:=f.1;omega,f.2.1⟩,fun e=>by have:=ah.o b e;have:=f.1;omega⟩) (fun _ _ _ h=>h)⟩);have e:(M.zip s).map (·.1)=M:=List.map_fst_zip (l₁:=M) (l₂:=s) (by omega);rw [e] at this;exact this
    have cc:Bel w z:=a1.o.bel (Bt ai.o HB.o) (by omega);refine bodyPost_ret (results_cell_row rfl _ _ (w.heap.size+1) _ _ _ dd rfl c6.o ch (by revert ci;cases dd <;> intro h <;> exact h) (by kernel_rfl)) rfl ?_;exact ⟨cc,_,rfl,_,_,_,_,rfl,cd,cg,cf,ce⟩
