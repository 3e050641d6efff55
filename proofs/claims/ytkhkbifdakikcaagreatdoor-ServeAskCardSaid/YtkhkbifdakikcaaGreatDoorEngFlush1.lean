/- tree.With, tree.Build: walked. -/
import Derived.Test.YtkhkbifdakikcaaGreatDoorEngOwn
set_option maxRecDepth 100000
set_option maxHeartbeats 1000000
namespace Go.Proofs.YtkhkbifdakikcaaGreatDoor
open Go.RowKit
variable {d:Dc} {C:List Clm} {M:Me} {cv dv:Value}
theorem root_el (g:Good d):isM d 0 true=true:=by
 obtain ⟨r,G⟩:=g.tree;exact G.is0e
theorem zQv {o m:Nat} {p:Int->Mm} {f:Nat} {s:Array Value} {Inv:List Int->(Nat->Prop)->World->Prop} (N:NameOk o m d p f s Inv) (g:Good d) (hC:ClmOk d C) (E:C.length<=1000)
 (L:List Int) (X:Nat->Prop) (W:World) (hv:qZh m W dv d) (i:qQa 2 qYr (·<m) W cv C) (hm:m<=W.heap.size) (I:Inv L X W) (G:∀ b,X b->m<=b) (J:L.length+(qXt d C 100 0).length<=o) :
 Calls Tryz.prog 23 #[dv,cv,.func (.func f) #[] s] W (ItsR d C p Inv L X W 100 0):=by
 obtain ⟨D,k,rfl,_,_⟩:=Rf hv;obtain ⟨ca,cc,rfl,_,_⟩:=Rf i;obtain ⟨V,F⟩:=qF5 g hC;have S:=g.len;have t:=N.lt L X W I;have H:=(Br W).alloc (.cells #[.slice D d.length k,.slice ca C.length cc,.func (.func f) #[] s] 119);have Q:=Blk.new' W W.heap.size rfl #[.slice D d.length k,.slice ca C.length cc,.func (.func f) #[] s] 119;have j:=lH (qQ5 m _ d 0 true W hv);rw [root_el g] at j;have B:=lH (qF0 (q:=W.heap.size) N g hC E F 100 0 L X _ (qHu g) (by omega) (N.keep _ _ _ _ I (Kp.of_bel H)) ⟨hv.later H hm,i.later qZj H hm,Za hm H.size,Q.cell 0,Q.cell 1,Q.cell 2⟩ (fun O=>by have:=t _ O;omega) G J);have e:=lH H;clear H Q t I hv i;go_enter Tryz.func23,Tryz.ntmps23
 go_wp2_with (first
 | (go_at_call 13;(with_reducible refine j.o.mono ?_);rintro P T ⟨rfl,rfl⟩)
 | (go_at_call 53;(with_reducible refine B.o.mono ?_);rintro R U ⟨y,A,rfl,n,K,x,r⟩;have q:=lH n;have u:=lH K;have z:=lH x;have w:=lH r;clear n K x r))
 go_ret;exact ⟨y,A,rfl,q.o,(Kp.of_bel e.o).trans u.o (fun _ _ h=>h),fun b a=>(z.o b a).imp id (fun h=>Za e.o.size h),w.o.mono (fun b a=>⟨Za e.o.size a.1,a.2⟩)⟩
theorem zZh {P:Program} {f:Func} {R:Ending->World->Prop} {e:Exit} {a:Act} {W:World} {E:World->Prop} (hE:E W) (h:∀ w,E w->bodyPost P f R e a w):bodyPost P f R e a W:=h W hE
set_option maxRecDepth 100000
set_option maxHeartbeats 4000000
def FlB (Bo:Nat->Prop) (gm gk:Nat) (X:Nat->Prop) (v:Value) (b:Nat):Prop:=Bo b∨(X b/\b≠gm/\b≠gk/\v.ownBlock≠some b)
structure FlE (W0:World) (Bo:Nat->Prop) (m gm gk:Nat) (X:Nat->Prop) (l:List Me) (c:Nat) (v:Value) (W:World):Prop where
 kp:Kp (·<m) W0 W
 top:m<=W0.heap.size
 lo:∀ b,Bo b->b<m
 xm:X gm
 xk:X gk
 ne:gm≠gk
 bm:Blk W gm [v] 27
 bk:Blk W gk [.int .i64 (c:Int)] 3
 low:∀ b,X b->m<=b/\b<W.heap.size
 row:qQb 4 (rdMe (FlB Bo gm gk X v)) m 60 W v l
 own:∀ b,v.ownBlock=some b->X b/\b≠gm/\b≠gk
section
variable {W0:World} {Bo:Nat->Prop} {m gm gk:Nat} {X:Nat->Prop} {l:List Me} {c:Nat} {v:Value} {W W':World}
theorem FlE.keep (h:FlE W0 Bo m gm gk X l c v W) (k:Kp (fun b=>b<m∨X b) W W'):FlE W0 Bo m gm gk X l c v W':=by
 have a:=Za h.top h.kp.size;have o:=h.lo;refine ⟨h.kp.trans k (fun _ _ H=>.inl H),h.top,h.lo,h.xm,h.xk,h.ne,h.bm.of (k.block _ (h.low _ h.xm).2 (.inr h.xm)),h.bk.of (k.block _ (h.low _ h.xk).2 (.inr h.xk)),fun b H=>⟨(h.low b H).1,Zc (h.low b H).2 k.size⟩,h.row.redo (fun b H=>k.block b (h.low b (h.own b H).1).2 (.inr (h.own b H).1)) (fun s y _ r=>r.agree (fun b H=>?_)),h.own⟩;rcases H with H | ⟨H,_⟩
 ·have:=o b H;exact k.block b (by omega) (.inl this)
 ·exact k.block b (h.low b H).2 (.inr H)
theorem FlE.bel (h:FlE W0 Bo m gm gk X l c v W) (b:Bel W W'):FlE W0 Bo m gm gk X l c v W':=h.keep (Kp.of_bel b)
theorem FlE.more (h:FlE W0 Bo m gm gk X l c v W) {o:Nat} (e:m<=o):FlE W0 Bo m gm gk (fun b=>X b∨(o<=b/\b<W.heap.size)) l c v W:=by
 refine ⟨h.kp,h.top,h.lo,.inl h.xm,.inl h.xk,h.ne,h.bm,h.bk,fun b H=>?_,h.row.mono (fun s y _ r=>r.mono (fun b H=>?_)),fun b H=>⟨.inl (h.own b H).1,(h.own b H).2⟩⟩
 ·rcases H with H | H
  ·exact h.low b H
  ·omega
 ·rcases H with H | ⟨H,a⟩
  ·exact .inl H
  ·exact .inr ⟨.inl H,a⟩
theorem FlE.count (h:FlE W0 Bo m gm gk X l c v W):FlE W0 Bo m gm gk X l (c+1) v (W.setCell ⟨gk,0,none⟩ (.int .i64 ((c:Int)+1))):=by
 have k:=(h.low _ h.xk).1;have e:=Za h.top h.kp.size;have o:=h.lo;have H:∀ b,b≠gk->(W.setCell ⟨gk,0,none⟩ (.int .i64 ((c:Int)+1))).heap[b]?=W.heap[b]?:=fun b H=>Below.heap_setCell W _ _ b H;refine ⟨h.kp.trans (K':=(·<m)) ⟨rfl,rfl,rfl,Nat.le_of_eq (World.size_setCell ..).symm,fun b _ a=>H b (by omega)⟩ (fun _ _ H=>H),h.top,h.lo,h.xm,h.xk,h.ne,h.bm.of (H _ h.ne),?_,fun b H=>by rw [World.size_setCell];exact h.low b H,h.row.redo (fun b a=>H b (h.own b a).2.2) (fun s y _ r=>r.agree (fun b a=>H b ?_)),h.own⟩
 ·have:=h.bk.set 0 (.int .i64 ((c:Int)+1));simpa using this
 ·rcases a with a | a
  ·have:=o b a;omega
  ·exact a.2.2.1
theorem FlE.push (h:FlE W0 Bo m gm gk X l c v W) {V:Value} (o:qQb 4 (fun _ cs y=>rdMe (FlB Bo gm gk X v) W cs y) m 60 W' V (l++[M])) (g:W.grownBy W' v.ownBlock) (f:qZc W v V) :
 FlE W0 Bo m gm gk (fun b=>X b∨(W.heap.size<=b/\b<W'.heap.size)) (l++[M]) c V (W'.setCell ⟨gm,0,none⟩ V)/\Kp (fun b=>¬ X b) W (W'.setCell ⟨gm,0,none⟩ V):=by
 have u:=(h.low _ h.xm);have q:=(h.low _ h.xk);have A:=Za h.top h.kp.size;have t:=h.lo;have j:∀ b,b<W.heap.size->b≠gm->v.ownBlock≠some b->(W'.setCell ⟨gm,0,none⟩ V).heap[b]?=W.heap[b]?:=fun b a i n=>(Below.heap_setCell W' _ _ b i).trans (g.block b a (fun e=>n e.symm));have r:∀ b,V.ownBlock=some b->(v.ownBlock=some b)∨W.heap.size<=b:=fun b e=>by
  rcases f with f | ⟨k,f,q⟩
  ·rw [f] at e;exact .inl e
  ·rw [f] at e;cases e;exact .inr q
 have z:(W'.setCell ⟨gm,0,none⟩ V).heap.size=W'.heap.size:=World.size_setCell ..;have s:=h.row.lt;have w:=o.lt;refine ⟨⟨h.kp.trans (K':=(·<m)) ⟨g.os,g.tape,g.output,by rw [z];exact g.size,fun b a i=>j b a (by omega) (fun e=>by have:=(s b e).1;omega)⟩ (fun _ _ j=>j),h.top,h.lo,.inl h.xm,.inl h.xk,h.ne,?_,h.bk.of (j gk q.2 (fun e=>h.ne e.symm) (fun e=>(h.own _ e).2.2 rfl)),fun b H=>?_,o.redo (fun b H=>Below.heap_setCell W' _ _ b ?_) (fun cs y _ x=>(rdMe.agree (w':=W'.setCell ⟨gm,0,none⟩ V) (fun b H=>?_) x).mono (fun b H=>?_)),fun b H=>?_⟩,⟨g.os,g.tape,g.output,by rw [z];exact g.size,fun b a i=>j b a (fun e=>i (e▸h.xm)) (fun e=>i (h.own b e).1)⟩⟩
 ·have:=(h.bm.of (g.block gm u.2 (fun e=>(h.own _ e.symm).2.1 rfl))).set 0 V;simpa using this
 ·rw [z];rcases H with H | H
  ·have:=h.low b H;have:=g.size;omega
  ·omega
 ·show b≠gm;rcases r b H with e | e
  ·exact (h.own b e).2.1
  ·omega
 ·rcases H with H | ⟨a,i,n,p⟩
  ·have:=t b H;exact j b (by omega) (by omega) (fun e=>by have:=(s b e).1;omega)
  ·exact j b (h.low b a).2 i p
 ·rcases H with H | ⟨a,i,n,p⟩
  ·exact .inl H
  ·refine .inr ⟨.inl a,i,n,fun e=>?_⟩;rcases r b e with e | e
   ·exact p e
   ·have:=(h.low b a).2;omega
 ·rcases r b H with e | e
  ·exact ⟨.inl (h.own b e).1,(h.own b e).2⟩
  ·exact ⟨.inr ⟨e,(w b H).2⟩,by omega,by omega⟩
end
theorem zXy (n:Int) (a b:Txt) (u:Option Addr) (e U:Nat) (w:World):(Instr.buildSlice 27 1 #[(0,.agg #[.int .i64 n,.string ⟨a.toArray⟩,.string ⟨b.toArray⟩,.slice u e U])]).run Tryz.prog w =
 .ok (.slice (some ⟨w.heap.size,0,none⟩) 1 1) (w.alloc (.cells #[.int .i64 n,.string ⟨a.toArray⟩,.string ⟨b.toArray⟩,.slice u e U] 60)):=by kernel_rfl
theorem MeC.kp {w w':World} {Bo:Nat->Prop} {m b o:Nat} {u:Value} (h:MeC Bo w b o M u) (e:Bo b) (a:∀ b,Bo b->b<m) (hm:m<=w.heap.size) (k:Kp (·<m) w w'):MeC Bo w' b o M u:=by
 have H:=k.block b (Zc (a b e) hm) (a b e);exact ⟨(World.cell?_of_block (a:=⟨b,o,none⟩) H).trans h.node,(World.cell?_of_block (a:=⟨b,o+1,none⟩) H).trans h.name,(World.cell?_of_block (a:=⟨b,o+2,none⟩) H).trans h.about,(World.cell?_of_block (a:=⟨b,o+3,none⟩) H).trans h.uses,qQa.agree h.usesAt (fun x f=>k.block x (Zc (a x f) hm) (a x f)) (fun _ _ _ h=>h)⟩
theorem zXb {W0 W:World} {Bo:Nat->Prop} {m ge gm gc gk c:Nat} {X:Nat->Prop} {tv mv iv v:Value} {s l:List Me} {D:List Int} (n:Int) (h:FlE W0 Bo m gm gk X l c v W) (gd:Good d) (hC:∀ c∈C,isM d c.kid false=true) (cq:C.length<=1000)
 (hv:qZh m W0 dv d) (ar:qKb Bo W0 mv s) (hi:qKn m W0 iv D) (b8:qQa 2 qYr (·<m) W0 cv C) (bw:ge<m) (hE:Blk W0 ge [dv,tv,mv,iv] 30) (bv:gc<m) (bm:Blk W0 gc [cv] 62)
 (c6:∀ x∈s,qVm x D=true->x=meOf x.node (qJn d C x.node)) (d7:l.length<=1000000000) (d6:c<=1000000000) :
 Calls Tryz.prog 24 #[.int .i64 n,.pointer (some ⟨ge,0,none⟩),.pointer (some ⟨gm,0,none⟩),.pointer (some ⟨gc,0,none⟩),.pointer (some ⟨gk,0,none⟩)] W (fun e w'=>∃ U un j v' X',e=.returned (.agg #[.int .i64 n,.string ⟨(qJn d C n).name.toArray⟩,.string ⟨(qJn d C n).about.toArray⟩,.slice U un j]) /\
  FlE W0 Bo m gm gk X' (l++[meOf n (qJn d C n)]) (if keptM D n s then c else c+1) v' w'/\Kp (fun b=>¬ X b) W w'/\∀ b,X' b->X b∨W.heap.size<=b):=by
 obtain ⟨da,dc,rfl,_,_⟩:=Rf hv
 obtain ⟨ma,mc,rfl,_,_⟩:=Rf ar
 obtain ⟨ia,ic,rfl,_,_⟩:=Rf hi
 obtain ⟨ca,cc,rfl,_,_⟩:=Rf b8
 have cw:m<=W.heap.size:=Za h.top h.kp.size
 have hst:∀ W',Kp (·<m) W0 W'->qZh m W' (.slice da d.length dc) d/\qKb Bo W' (.slice ma s.length mc) s/\qKn m W' (.slice ia D.length ic) D/\qQa 2 qYr (·<m) W' (.slice ca C.length cc) C/\Blk W' ge [.slice da d.length dc,tv,.slice ma s.length mc,.slice ia D.length ic] 30/\Blk W' gc [.slice ca C.length cc] 62:=fun W' J=>by
  have ha:qZt (·<m) W0 W':=J.agree (fun b H=>⟨Zc H h.top,H⟩);exact ⟨(show qKc (·<m) W0 _ d from hv).agree ha,ar.agree (fun b H=>ha b (h.lo b H)),qQa.agree hi ha (fun _ _ _ h=>h),qQa.agree b8 ha (fun _ _ _ h=>h),hE.of (J.block _ (Zc bw h.top) bw),bm.of (J.block _ (Zc bv h.top) bv)⟩
 obtain ⟨w1,au⟩:∃ w1,w1=(W.alloc (.cells #[.int .i64 n] 3)).alloc (.cells #[.int .i64 0,.string ⟨#[]⟩,.string ⟨#[]⟩,.slice none 0 0] 60):=⟨_,rfl⟩
 have am:Bel W w1:=by rw [au];exact ((Br W).alloc _).alloc _
 have b7:Blk w1 W.heap.size [.int .i64 n] 3:=by rw [au];exact (Blk.new' W _ rfl _ _).bel ((Br _).alloc _)
 have bo:Blk w1 (W.heap.size+1) [.int .i64 0,.string ⟨#[]⟩,.string ⟨#[]⟩,.slice none 0 0] 60:=by rw [au];exact Blk.new' _ _ (by simp) _ _
 have c0:Kp (·<m) W0 w1:=(h.bel am).kp
 obtain ⟨a1,a2,a3,a4,a5,a6⟩:=hst w1 c0
 have ct:m<=w1.heap.size:=Za cw am.size
 have k1:=b7.cell 0
 have e0:=a5.cell 0
 have e2:=a5.cell 2
 have e3:=a5.cell 3
 simp only [Zd,Ze] at k1 e0 e2 e3
 have cI:=lH (qG0 (a2.mono (fun b H=>h.lo b H)) ct k1)
 have a9:=lH hst
 have a:=lH (h.bel am)
 have b2:=lH am
 have cb:=lH b7
 have b3:=lH bo
 have cd:=lH c6
 have bi:=lH (zGx (x:=n) (D:=D) s 0)
 have c5:∀ b,X b->b<W.heap.size:=fun b H=>(h.low b H).2
 have az:∀ W',Kp (·<m) W0 W'->Calls Tryz.prog 16 #[.slice da d.length dc,.slice ca C.length cc,.int .i64 n] W' (Rn W' fun w' y=>∃ uv,y=.agg #[.int .i64 n,.string ⟨(qJn d C n).name.toArray⟩,.string ⟨(qJn d C n).about.toArray⟩,uv]/\qQb 1 qQf W'.heap.size 3 w' uv (qJn d C n).uses):=fun W' J=>by
  obtain ⟨a1,_,_,a4,_,_⟩:=hst W' J;exact qW9 m _ _ d C n W' a1 a4 (Za h.top J.size) gd hC cq
 have HQ:Hi (∃ ad,qJn d C n=ad):=lH ⟨_,rfl⟩
 clear hst h am b7 bo c0 a1 a2 a3 a4 a5 a6 c6 hv ar hi b8 hE bm
 obtain ⟨cn,hQ⟩:=HQ.o
 rw [hQ] at az ⊢
 replace HQ:=lH hQ
 clear hQ
 obtain ⟨i,Q,q⟩:=cn
 simp only [meOf] at az ⊢
 go_enter Tryz.func24,Tryz.ntmps24
 go_upto_region 1 with fail
 rw [<- au]
 clear au
 go_upto_region 2 with (go_at_call 25;(with_reducible refine qJ7 cI.o fun k Y=>?_))
 obtain ⟨V,N,rfl,v1,v2⟩:=Rf a.o.row.read
 have A:Hi (∀ b,X b->b<W.heap.size):=lH c5
 clear c5
 have c9:=lH az
 clear az
 cases f:keptM D n s with
 | true=>
   obtain ⟨ai,hj,x1,x2,T⟩:∃ (b1:Nat) (h:b1<s.length),idxMe n s 0=((0+b1:Nat):Int)/\s[b1].node=n/\keptM D n s=qVm s[b1] D:=by
    rcases bi.o with ⟨_,e,_⟩ | h
    ·rw [f] at e;cases e
    ·exact h
   rw [f] at T;rw [x1,Nat.zero_add];have b9:=cd.o _ (Zl hj) T.symm;rw [x2,HQ.o] at b9;have B:=a.o.bel Y.o;have a8:m<=k.heap.size:=Za a.o.top B.kp.size;obtain ⟨b,aj,cp,uv,e1,_,_,H,hI⟩:=(a9.o k B.kp).2.1.item ai hj;simp at e1;obtain ⟨rfl,rfl⟩:=e1;have cF:Hi (∀ W',Bel k W'->Calls Tryz.prog 27 #[.pointer (some ⟨b,aj+ai*4,none⟩),.slice ia D.length ic] W' (Rb (.bool true) W')):=lH (fun W' hW=>by
    rw [T];exact qYy (hI.kp H a.o.lo a8 (Kp.of_bel hW)) (fun x hx=>Zc (Zc (a.o.lo x hx) a8) hW.size) (a9.o W' (B.bel hW).kp).2.2.1 (Za a8 hW.size))
   rw [b9] at hI;have HJ:Hi (keptM D n s=true):=lH f;have CI:Hi (∀ w',Kp (·<m) k w'->w'.cell? ⟨ge,2,none⟩=some (.slice (some ⟨b,aj,none⟩) s.length mc)/\w'.cell? ⟨ge,3,none⟩=some (.slice ia D.length ic)/\MeC Bo w' b (aj+ai*4) ⟨n,i,Q,q⟩ uv):=lH (fun w' J=>by
    have ad:=(a9.o w' (B.kp.trans J (fun _ _ h=>h))).2.2.2.2.1;exact ⟨by simpa using ad.cell 2,by simpa using ad.cell 3,hI.kp H a.o.lo a8 J⟩)
   have av:=lH B;have d2:=lH H;obtain ⟨U,j,rfl,u1,u2⟩:=Rf hI.usesAt;clear hI b9 B x1 x2 T f H;refine qK2 [0,1,2,3,4,5,6,7,8,9,10] [] (fun w'=>Bel k w') (by kernel_rfl) (by kernel_rfl) (Br k).drew ?_;simp only [pickL,List.filterMap_cons,List.filterMap_nil,Zd,Ze];iterate 11 (first
 | (refine DetL.cons (v:=?_) (fun _=>Says.plain ?_ ?_) ?_;rotate_left;rfl;(intro w' S;obtain ⟨q2,q3,-⟩:=CI.o w' (Kp.of_bel S);clear S;go_simp;with_reducible rfl);simp only [Act.put,Zh,Zf,Zg])
 | (refine DetL.cons (v:=?_) (fun _=>Says.call (f:=?_) (args:=?_) ?_ ?_ ?_) ?_;rotate_left 3;rfl;(intro w';go_simp;constructor <;> with_reducible rfl);(intro w' S;refine Calls.mono (cF.o _ S) ?_;rintro e d1 ⟨rfl,H⟩;refine ⟨?_,Bt S H⟩;with_reducible rfl);simp only [Act.put,Zh,Zf,Zg]))
   refine DetL.nil (fun o a7=>?_)
   have G:=lH a7
   clear a7
   go_upto_region 3 with fail
   have aa:=av.o.bel G.o
   have ao:=b3.o.bel (Bt Y.o G.o)
   have c4:W.heap.size+1<k.heap.size:=by have:=b3.o.lt;have:=Y.o.size;omega
   have al:=lH c4
   clear c4
   refine qQ6 [0,1,2,3,4,5] [(6,some 30,[]),(7,some 31,[6])] [8] (fun x W'=>Kp (·<m) k W'/\Blk W' gm [.slice V l.length N] 27/\Blk W' (W.heap.size+1) [.int .i64 0,.string ⟨#[]⟩,.string ⟨#[]⟩,.slice none 0 0] 60/\(x 7=none->Bel o W'/\∀ u,x 6=some u->∃ gg,u=.slice (some ⟨gg,0,none⟩) 1 1/\Blk W' gg (qH3 ⟨n,i,Q,q⟩ (.slice U q.length j)) 60) /\
    (∀ u,x 7=some u->(∃ za zn zc,u=.slice za zn zc)/\∃ Z,Bel o Z/\qQb 4 (fun _ cs y=>rdMe (FlB Bo gm gk X (.slice V l.length N)) Z cs y) m 60 W' u (l++[⟨n,i,Q,q⟩])/\Z.grownBy W' (Value.slice V l.length N).ownBlock/\qZc Z (.slice V l.length N) u)/\∀ u,x 7=some u->∃ u',x 6=some u') (by kernel_rfl) (by kernel_rfl) ⟨Kp.of_bel G.o.drew,aa.bm.drew,ao.drew,(fun _=>⟨(Br o).drew,fun u h=>by cases h⟩),(fun u h=>by cases h),fun u h=>by cases h⟩ ?_
   simp only [pickL,List.map_cons,List.map_nil,List.filterMap_cons,List.filterMap_nil,Zd,Ze]
   iterate 6 (refine qZp.cons (v:=?_) (fun _=>Says.plain ?_ ?_) ?_;rotate_left;rfl;(intro w' S;obtain ⟨q2,q3,f⟩:=CI.o w' S.1;have qm:=S.2.1.cell 0;simp only [Zd] at qm;have p0:=f.node;have p1:=f.name;have p2:=f.about;have p3:=f.uses;clear S f;go_simp;with_reducible rfl);simp only [Act.put,Zh,Zf,Zg])
   refine qZp.nil ⟨by simp,⟨?_,?_,trivial⟩,?_⟩
   ·intro x ρ W' hx c1 b0 hT
    obtain ⟨t1,t2,t3,t4,t5,t6⟩:=hT
    have h7:x 7=none:=by
     cases e:x 7 with
     | none=>rfl
     | some u=>
       obtain ⟨u',h⟩:=t6 u e;rw [hx] at h;cases h
    obtain ⟨hb3,_⟩:=t4 h7
    have bk:∀ u,setX x 6 u 7=none:=fun u=>by rw [qQm _ (by decide)];exact h7
    have ax:Bel W' (W'.alloc (.cells #[.int .i64 n,.string ⟨i.toArray⟩,.string ⟨Q.toArray⟩,.slice U q.length j] 60)):=(Br W').alloc _
    refine zZt rfl (b0.1 (.tmp 29) (by simp)) (zXy _ _ _ _ _ _ W') ⟨t1.trans (Kp.of_bel ax) (fun _ _ h=>h),t2.bel ax,t3.bel ax,(fun _=>⟨Bt hb3 ax,fun u p=>?_⟩),(fun u p=>?_),fun u p=>?_⟩
    ·rw [qQj] at p
     cases p
     exact ⟨_,rfl,Blk.new' W' _ rfl _ _⟩
    ·rw [bk] at p
     cases p
    ·rw [bk] at p
     cases p
   ·intro x ρ W' hx c1 b0 hT
    obtain ⟨t1,t2,t3,t4,t5,t6⟩:=hT
    obtain ⟨hb3,t4⟩:=t4 hx
    obtain ⟨u6,bd⟩:=c1 6 (by simp)
    obtain ⟨gg,rfl,cr⟩:=t4 u6 bd
    have ab:=(av.o.bel G.o).bel hb3
    have cu:m<=W'.heap.size:=Za a.o.top ab.kp.size
    have ar:rdMe (FlB Bo gm gk X (.slice V l.length N)) W' (qH3 ⟨n,i,Q,q⟩ (.slice U q.length j)) ⟨n,i,Q,q⟩:=⟨_,rfl,(CI.o W' t1).2.2.usesAt.mono (fun _ h=>.inl h) (fun _ _ _ h=>h)⟩
    refine qGu rfl zQf (by decide) (rd:=fun _ cs y=>rdMe (FlB Bo gm gk X (.slice V l.length N)) W' cs y) (fun _ _ _ _ h=>h) (b0.1 (.tmp 24) (by simp)) (ab.row.mono (fun _ _ _ h=>h)) (b0.2 (6,some 30,[]) (by simp) 30 _ rfl bd) cr rfl (y:=(⟨n,i,Q,q⟩:Me)) ar (zFw rfl) (by omega) (by omega) cu ?_
    intro v7 w7 o7 g7 f7
    obtain ⟨za,zc,rfl,_,_⟩:=Rf o7.read
    refine ⟨t1.trans (K':=(·<m)) (Kp.of_grown g7 (fun b _ H e=>by have:=(ab.row.lt b e.symm).1;omega)) (fun _ _ h=>h),t2.of (g7.block _ t2.lt (fun e=>(ab.own _ e.symm).2.1 rfl)),t3.of (g7.block _ t3.lt (fun e=>by have:=A.o _ (ab.own _ e.symm).1;omega)),(fun h=>?_),(fun u p=>?_),fun u p=>⟨_,by rw [qQm _ (by decide)];exact bd⟩⟩
    ·rw [qQj] at h
     cases h
    ·rw [qQj] at p
     cases p
     exact ⟨⟨_,_,_,rfl⟩,W',hb3,o7,g7,f7⟩
   ·intro co F hT
    obtain ⟨t1,t2,t3,t4,t5,t6⟩:=hT
    obtain ⟨⟨za,zn,zc,e7⟩,Z,ay,r,t,R⟩:=t5 (co 7) rfl
    simp only [List.foldl_cons,List.foldl_nil,Zh,Zf,Zg]
    rw [e7] at r R ⊢
    have ab:=(av.o.bel G.o).bel ay
    obtain ⟨hP,ah⟩:=ab.push r t R
    have aq:W.heap.size+1≠gm:=fun e=>by have:=A.o _ a.o.xm;omega
    have ap:=t3.of (Below.heap_setCell F ⟨gm,0,none⟩ (.slice za zn zc) (W.heap.size+1) aq)
    have bz:Kp (·<m) k (F.setCell ⟨gm,0,none⟩ (.slice za zn zc)):=(Kp.of_bel (Bt G.o ay)).trans ah (fun b O I hx=>by have:=(av.o.low b hx).1;omega)
    have qm:=t2.cell 0
    have qf:=t2.frozen 0
    simp only [Zd] at qm
    have cy:=ay.size
    have cx:=G.o.size
    have c2:¬ (X (W.heap.size+1)∨(Z.heap.size<=W.heap.size+1/\W.heap.size+1<F.heap.size)):=by
     rintro (h | h)
     ·have:=A.o _ h;omega
     ·have:=al.o;omega
    have an:Kp (fun b=>¬ X b) W (F.setCell ⟨gm,0,none⟩ (.slice za zn zc)):=(Kp.of_bel (Bt b2.o (Bt Y.o (Bt G.o ay)))).trans ah (fun _ _ h=>h)
    have HP:=lH hP
    have g:=lH ap
    have ag:=lH bz
    have b4:=lH an
    have cf:=lH c2
    have cl:Hi (W.heap.size<=Z.heap.size):=lH (by have:=b2.o.size;have:=Y.o.size;omega)
    clear t1 t2 t3 t4 t5 t6 e7 r t R ab hP ah ap bz aq c2 an cy cx
    go_upto_region 4 with fail
    clear qm qf
    generalize F.setCell ⟨gm,0,none⟩ (.slice za zn zc)=P at *
    obtain ⟨q2,q3,f⟩:=CI.o P ag.o
    have p0:=f.node
    have p1:=f.name
    have p2:=f.about
    have p3:=f.uses
    have K:=g.o.cell 0
    have r:=g.o.cell 1
    have t:=g.o.cell 2
    have R:=g.o.cell 3
    have s0:=g.o.frozen 0
    have s1:=g.o.frozen 1
    have s2:=g.o.frozen 2
    have s3:=g.o.frozen 3
    simp only [Zd,Ze] at K r t R
    clear f
    go_wp2
    refine zZh (E:=fun W'=>Blk W' (W.heap.size+1) [.int .i64 n,.string ⟨i.toArray⟩,.string ⟨Q.toArray⟩,.slice U q.length j] 60/\FrE (W.heap.size+1) P W') ⟨(((g.o.set 0 _).set 1 _).set 2 _).set 3 _,((((FrE.refl _ P).set _).set _).set _).set _⟩ ?_
    clear K r t R s0 s1 s2 s3
    rintro wz ⟨a0,z⟩
    have K:=a0.cell 0
    have r:=a0.cell 1
    have t:=a0.cell 2
    have R:=a0.cell 3
    simp only [Zd,Ze] at K r t R
    have bb:Kp (fun b=>b<m∨(X b∨(Z.heap.size<=b/\b<F.heap.size))) P wz:=⟨z.os,z.tape,z.output,z.size,fun b O I=>z.block b O (fun e=>by
     subst e;rcases I with h | h
     ·omega
     ·exact cf.o h)⟩
    have ba:Kp (fun b=>b≠W.heap.size+1) P wz:=⟨z.os,z.tape,z.output,z.size,fun b O I=>z.block b O I⟩
    refine bodyPost_ret (v:=.agg #[.int .i64 n,.string ⟨i.toArray⟩,.string ⟨Q.toArray⟩,.slice U q.length j]) (by simp [results,Tryz.results24,go_sem,K,r,t,R]) rfl ?_
    refine ⟨⟨U,_,j,rfl⟩,.slice za zn zc,(fun b=>X b∨(Z.heap.size<=b/\b<F.heap.size)),?_,b4.o.trans ba (fun b H _ e=>by omega),fun b H=>?_⟩
    ·exact HP.o.keep bb
    ·rcases H with h | h
     ·exact .inl h
     ·exact .inr (Za cl.o h.1)
 | false=>
   have HJ:Hi (¬ keptM D n s=true):=lH (by rw [f];simp);have B:=a.o.bel Y.o;have a8:m<=k.heap.size:=Za a.o.top B.kp.size;rcases bi.o with ⟨x1,x2,T⟩ | ⟨ai,hj,x1,x2,T⟩;case' inl=>
    rw [x1];clear x1 x2 T f;refine qK2 [0,1,2,3,4,5,6,7,8,9,10] [] (fun w'=>Bel k w') (by kernel_rfl) (by kernel_rfl) (Br k).drew ?_;simp only [pickL,List.filterMap_cons,List.filterMap_nil,Zd,Ze];iterate 11 (first
 | (refine DetL.cons (v:=?_) (fun _=>Says.plain ?_ ?_) ?_;rotate_left;rfl;(intro w' S;clear S;go_simp;with_reducible rfl);simp only [Act.put,Zh,Zf,Zg])
 | (refine DetL.cons (fun _=>Says.skip ?_) ?_;rfl;simp only [Act.put,Zh,Zf,Zg]))
    refine DetL.nil (fun o a7=>?_)
   case' inr=>
    rw [f] at T;rw [x1,Nat.zero_add];obtain ⟨b,aj,cp,uv,e1,_,_,H,hI⟩:=(a9.o k B.kp).2.1.item ai hj;simp at e1;obtain ⟨rfl,rfl⟩:=e1;have cF:Hi (∀ W',Bel k W'->Calls Tryz.prog 27 #[.pointer (some ⟨b,aj+ai*4,none⟩),.slice ia D.length ic] W' (Rb (.bool false) W')):=lH (fun W' hW=>by
     rw [T];exact qYy (hI.kp H a.o.lo a8 (Kp.of_bel hW)) (fun x hx=>Zc (Zc (a.o.lo x hx) a8) hW.size) (a9.o W' (B.bel hW).kp).2.2.1 (Za a8 hW.size))
    have CI:Hi (∀ w',Kp (·<m) k w'->w'.cell? ⟨ge,2,none⟩=some (.slice (some ⟨b,aj,none⟩) s.length mc)/\w'.cell? ⟨ge,3,none⟩=some (.slice ia D.length ic)):=lH (fun w' J=>by
     have ad:=(a9.o w' (B.kp.trans J (fun _ _ h=>h))).2.2.2.2.1;exact ⟨by simpa using ad.cell 2,by simpa using ad.cell 3⟩)
    clear hI x1 x2 T f H;refine qK2 [0,1,2,3,4,5,6,7,8,9,10] [] (fun w'=>Bel k w') (by kernel_rfl) (by kernel_rfl) (Br k).drew ?_;simp only [pickL,List.filterMap_cons,List.filterMap_nil,Zd,Ze];iterate 11 (first
 | (refine DetL.cons (v:=?_) (fun _=>Says.plain ?_ ?_) ?_;rotate_left;rfl;(intro w' S;obtain ⟨q2,q3⟩:=CI.o w' (Kp.of_bel S);clear S;go_simp;with_reducible rfl);simp only [Act.put,Zh,Zf,Zg])
 | (refine DetL.cons (v:=?_) (fun _=>Says.call (f:=?_) (args:=?_) ?_ ?_ ?_) ?_;rotate_left 3;rfl;(intro w';go_simp;constructor <;> with_reducible rfl);(intro w' S;refine Calls.mono (cF.o _ S) ?_;rintro e d1 ⟨rfl,H⟩;refine ⟨?_,Bt S H⟩;with_reducible rfl);simp only [Act.put,Zh,Zf,Zg]))
    refine DetL.nil (fun o a7=>?_)
   all_goals
    have aa:=B.bel a7
    have q5:=(a9.o o aa.kp).2.2.2.2.1.cell 0
    have q6:=(a9.o o aa.kp).2.2.2.2.2.cell 0
    have q7:=(cb.o.bel (Bt Y.o a7)).cell 0
    have ao:=b3.o.bel (Bt Y.o a7)
    simp only [Zd] at q5 q6 q7
    have cN:=lH (c9.o o aa.kp)
    have c7:=lH aa
    have ci:=lH ao
    have G:=lH (Bt b2.o (Bt Y.o a7))
    have bh:Hi (m<=o.heap.size):=lH (Za a.o.top aa.kp.size)
    have al:Hi (W.heap.size+1<o.heap.size):=lH ao.lt
    clear aa ao a7 B a8
    go_upto_region 6 with (go_at_call 16;(with_reducible refine cN.o.mono ?_);rintro e w ⟨b5,y5,rfl,uv,rfl,o5⟩;obtain ⟨U,j,rfl,u1,u2⟩:=Rf o5.read;have ae:=lH b5;have cg:=lH o5;clear b5 o5)
    clear q5 q6 q7
    have bl:Bel w (w.alloc (.cells #[.int .i64 n,.string ⟨i.toArray⟩,.string ⟨Q.toArray⟩,.slice U q.length j] 60)):=(Br w).alloc _
    have bp:Blk (w.alloc (.cells #[.int .i64 n,.string ⟨i.toArray⟩,.string ⟨Q.toArray⟩,.slice U q.length j] 60)) w.heap.size [.int .i64 n,.string ⟨i.toArray⟩,.string ⟨Q.toArray⟩,.slice U q.length j] 60:=Blk.new' w _ rfl _ _
    have af:=lH bl
    have bg:=lH bp
    clear bl bp
    generalize (w.alloc (.cells #[.int .i64 n,.string ⟨i.toArray⟩,.string ⟨Q.toArray⟩,.slice U q.length j] 60))=E at *
    have aw:=((c7.o.bel ae.o).more bh.o).bel af.o
    have kb:=aw.bk.cell 0
    have kf:=aw.bk.frozen 0
    simp only [Zd] at kb
    have c8:=lH aw
    clear aw
    go_upto_region 7 with fail
    have bn:=c8.o.count
    have bq:=bg.o.of (Below.heap_setCell E ⟨gk,0,none⟩ (.int .i64 ((c:Int)+1)) w.heap.size (fun e=>by have:=A.o _ a.o.xk;have:=al.o;have:=ae.o.size;have e':w.heap.size=gk:=e;omega))
    have bs:=((ci.o.bel ae.o).bel af.o).of (Below.heap_setCell E ⟨gk,0,none⟩ (.int .i64 ((c:Int)+1)) (W.heap.size+1) (fun e=>by have:=A.o _ a.o.xk;have e':W.heap.size+1=gk:=e;omega))
    have bt:qQa 1 qQf (FlB Bo gm gk (fun b=>X b∨(o.heap.size<=b/\b<w.heap.size)) (.slice V l.length N)) (E.setCell ⟨gk,0,none⟩ (.int .i64 ((c:Int)+1))) (.slice U q.length j) q:=by
     have O:=ae.o.size;have I:=af.o.size;have h3:=al.o;refine (qQa.agree (w':=E.setCell ⟨gk,0,none⟩ (.int .i64 ((c:Int)+1))) cg.o.row (fun b H=>?_) (fun _ _ _ h=>h)).mono (fun b H=>Or.inr ⟨Or.inr ⟨H.1,H.2.1⟩,fun e=>?_,fun e=>?_,fun e=>?_⟩) (fun _ _ _ h=>h)
     ·refine (Below.heap_setCell E _ _ b (fun e=>?_)).trans (af.o.block b H.2.1);have e':b=gk:=e;have:=A.o _ a.o.xk;have:=H.1;omega
     ·have:=A.o _ a.o.xm;have:=H.1;omega
     ·have:=A.o _ a.o.xk;have:=H.1;omega
     ·have:=A.o _ (a.o.own b e).1;have:=H.1;omega
    have bx:Kp (fun b=>¬ X b) W (E.setCell ⟨gk,0,none⟩ (.int .i64 ((c:Int)+1))):=(Kp.of_bel (Bt G.o (Bt ae.o af.o))).trans (K':=fun b=>¬ X b) ⟨rfl,rfl,rfl,Nat.le_of_eq (World.size_setCell ..).symm,fun b _ H=>Below.heap_setCell E _ _ b (fun e=>H (by have e':b=gk:=e;rw [e'];exact a.o.xk))⟩ (fun _ _ h=>h)
    have c3:(E.setCell ⟨gk,0,none⟩ (.int .i64 ((c:Int)+1))).heap.size=E.heap.size:=World.size_setCell ..
    have ac:=lH bn
    have ak:=lH bq
    have cj:=lH bs
    have cm:=lH bt
    have ce:=lH bx
    have ck:=lH c3
    clear bn bq bs bt bx c3 kb kf
    generalize (E.setCell ⟨gk,0,none⟩ (.int .i64 ((c:Int)+1)))=w7 at *
    have q0:=ac.o.bm.cell 0
    have p0:=ak.o.cell 0
    have p1:=ak.o.cell 1
    have p2:=ak.o.cell 2
    have p3:=ak.o.cell 3
    simp only [Zd,Ze] at q0 p0 p1 p2 p3
    have ch:Hi (qQb 4 (fun _ cs y=>rdMe (FlB Bo gm gk (fun b=>X b∨(o.heap.size<=b/\b<w.heap.size)) (.slice V l.length N)) w7 cs y) m 60 w7 (.slice V l.length N) l):=lH (ac.o.row.mono (fun _ _ _ h=>h))
    have S7:m<=w7.heap.size:=Za a.o.top ac.o.kp.size
    have cz:(l++[(⟨n,i,Q,q⟩:Me)]).length=l.length+1:=by simp
    go_upto_region 8 with (at_builtin;(refine qJw rfl _ _ _ rfl zQf (by decide) (rd:=fun _ cs y=>rdMe (FlB Bo gm gk (fun b=>X b∨(o.heap.size<=b/\b<w.heap.size)) (.slice V l.length N)) w7 cs y) (v:=.slice V l.length N) ?hst ?hone (base:=m) rfl ch.o rfl ?hgs (⟨n,i,Q,q⟩:Me) ?hC ?hby ?hmx S7 ?_;(case hst=>exact fun _ _ _ _ h=>h);(case hone=>intro _ cs y hr u p;obtain ⟨uv,rfl,hr⟩:=hr;obtain ⟨d5,c',rfl,_,_⟩:=Rf hr;exact zFw rfl u p);(case hgs=>rfl);(case hC=>exact ⟨rfl,_,rfl,cm.o⟩);(case hby=>omega);(case hmx=>omega);intro v8 F o8 g8 f8;obtain ⟨be,bf,rfl,d8,d9⟩:=Rf o8.read;rw [cz] at o8 f8;obtain ⟨hP,ah⟩:=ac.o.push o8 g8 f8;have bc:=ac.o.bm.of (g8.block gm ac.o.bm.lt (fun e=>(ac.o.own _ e.symm).2.1 rfl));have q8:=bc.cell 0;have d0:=bc.frozen 0;simp only [Zd] at q8;have HP:=lH hP;have b6:=lH ah;clear o8 g8 f8 hP ah bc))
    clear q0 q8 d0 p0 p1 p2 p3
    have S3:=G.o.size
    have S5:=ae.o.size
    have S6:=af.o.size
    have d3:=ck.o
    have d4:w.heap.size<E.heap.size:=bg.o.lt
    have X3:=al.o
    have aq:¬ (X (W.heap.size+1)∨(o.heap.size<=W.heap.size+1/\W.heap.size+1<w.heap.size)):=by
     rintro (h | h)
     ·have:=A.o _ h;omega
     ·omega
    have bu:¬ (X w.heap.size∨(o.heap.size<=w.heap.size/\w.heap.size<w.heap.size)):=by
     rintro (h | h)
     ·have:=A.o _ h;omega
     ·omega
    have ap:=cj.o.of (b6.o.block _ (by omega) aq)
    have br:=ak.o.of (b6.o.block _ (by omega) bu)
    have an:Kp (fun b=>¬ X b) W (F.setCell ⟨gm,0,none⟩ (.slice be (l.length+1) bf)):=ce.o.trans b6.o (fun b O I h3=>by
     rcases h3 with h3 | h3
     ·exact I h3
     ·omega)
    have g:=lH ap
    have ag:=lH br
    have b4:=lH an
    have bj:Hi (E.heap.size=w7.heap.size):=lH (by omega)
    clear ap br an aq bu
    generalize (F.setCell ⟨gm,0,none⟩ (.slice be (l.length+1) bf))=P at *
    have K:=g.o.cell 0
    have r:=g.o.cell 1
    have t:=g.o.cell 2
    have R:=g.o.cell 3
    have s0:=g.o.frozen 0
    have s1:=g.o.frozen 1
    have s2:=g.o.frozen 2
    have s3:=g.o.frozen 3
    have p0:=ag.o.cell 0
    have p1:=ag.o.cell 1
    have p2:=ag.o.cell 2
    have p3:=ag.o.cell 3
    simp only [Zd,Ze] at K r t R p0 p1 p2 p3
    go_wp2
    refine zZh (E:=fun W'=>Blk W' (W.heap.size+1) [.int .i64 n,.string ⟨i.toArray⟩,.string ⟨Q.toArray⟩,.slice U q.length j] 60/\FrE (W.heap.size+1) P W') ⟨(((g.o.set 0 _).set 1 _).set 2 _).set 3 _,((((FrE.refl _ P).set _).set _).set _).set _⟩ ?_
    clear K r t R s0 s1 s2 s3
    rintro wz ⟨a0,z⟩
    have K:=a0.cell 0
    have r:=a0.cell 1
    have t:=a0.cell 2
    have R:=a0.cell 3
    simp only [Zd,Ze] at K r t R
    have bb:Kp (fun b=>b<m∨((X b∨(o.heap.size<=b/\b<w.heap.size))∨(w7.heap.size<=b/\b<F.heap.size))) P wz:=⟨z.os,z.tape,z.output,z.size,fun b O I=>z.block b O (fun e=>by
     subst e;have M3:=bh.o;rcases I with h | (h | h) | h
     ·have:=Za a.o.top a.o.kp.size;have:=(a.o.low _ a.o.xm);have:=A.o _ a.o.xm;omega
     ·have:=A.o _ h;omega
     ·omega
     ·have:=bj.o;omega)⟩
    have ba:Kp (fun b=>b≠W.heap.size+1) P wz:=⟨z.os,z.tape,z.output,z.size,fun b O I=>z.block b O I⟩
    refine bodyPost_ret (v:=.agg #[.int .i64 n,.string ⟨i.toArray⟩,.string ⟨Q.toArray⟩,.slice U q.length j]) (by simp [results,Tryz.results24,go_sem,K,r,t,R]) rfl ?_
    refine ⟨⟨U,_,j,rfl⟩,.slice be (l.length+1) bf,(fun b=>(X b∨(o.heap.size<=b/\b<w.heap.size))∨(w7.heap.size<=b/\b<F.heap.size)),?_,b4.o.trans ba (fun b H _ e=>by omega),fun b H=>?_⟩
    ·exact HP.o.keep bb
    ·have:=bj.o
     rcases H with (h | h) | h
     ·exact .inl h
     ·exact .inr (by omega)
     ·exact .inr (by omega)
