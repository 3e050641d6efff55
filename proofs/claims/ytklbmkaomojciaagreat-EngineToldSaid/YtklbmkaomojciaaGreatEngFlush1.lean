/- tree.With, tree.Build: walked. -/
import Derived.Test.YtklbmkaomojciaaGreatEngOwn
set_option maxRecDepth 100000
set_option maxHeartbeats 1000000
namespace Go.Proofs.YtklbmkaomojciaaGreat
open Go.RowKit
theorem root_el {d:Dc} (g:Good d):isM d 0 true=true:=by
 obtain ⟨r,g0⟩:=g.tree
 exact g0.is0e
theorem zQf {lim m:Nat} {dv cv:Value} {d:Dc} {C:List Clm} {memo:Int->Mm} {fid:Nat} {caps:Array Value} {Inv:List Int->(Nat->Prop)->World->Prop} (N:NameOk lim m d memo fid caps Inv) (g:Good d) (hC:ClmOk d C) (hCl:C.length<=1000)
 (L:List Int) (X:Nat->Prop) (W:World) (hv:qZb m W dv d) (hc:qQa 2 qVh (·<m) W cv C) (hm:m<=W.heap.size) (hI:Inv L X W) (hXm:∀ b,X b->m<=b) (hlim:L.length+(qXj d C 100 0).length<=lim) :
 Calls Tryz.prog 73 #[dv,cv,.func (.func fid) #[] caps] W (ItsR d C memo Inv L X W 100 0):=by
 obtain ⟨da,dc,rfl,_,_⟩:=Rf hv
 obtain ⟨ca,cc,rfl,_,_⟩:=Rf hc
 obtain ⟨μ,F⟩:=qF2 g hC
 have hl:=g.len
 have hlt:=N.lt L X W hI
 have hB0:=(Br W).alloc (.cells #[.slice da d.length dc,.slice ca C.length cc,.func (.func fid) #[] caps] 150)
 have hQ:=Blk.new' W W.heap.size rfl #[.slice da d.length dc,.slice ca C.length cc,.func (.func fid) #[] caps] 150
 have cIs:=lH (qQ6 m _ d 0 true W hv)
 rw [root_el g] at cIs
 have cIt:=lH (qFq (q:=W.heap.size) N g hC hCl F 100 0 L X _ (qHj g) (by omega) (N.keep _ _ _ _ hI (Kp.of_bel hB0)) ⟨hv.later hB0 hm,hc.later qZh hB0 hm,Za hm hB0.size,hQ.cell 0,hQ.cell 1,hQ.cell 2⟩ (fun hx=>by have:=hlt _ hx;omega) hXm hlim)
 have HB0:=lH hB0
 clear hB0 hQ hlt hI hv hc
 go_enter Tryz.func73,Tryz.ntmps73
 go_wp2_with (first
 | (go_at_call 56;(with_reducible refine cIs.o.mono ?_);rintro e1 w1 ⟨rfl,rfl⟩)
 | (go_at_call 124;(with_reducible refine cIt.o.mono ?_);rintro e2 w2 ⟨y,X',rfl,i2,k2,x2,r2⟩;have HI2:=lH i2;have HK2:=lH k2;have HX2:=lH x2;have HR2:=lH r2;clear i2 k2 x2 r2))
 go_ret
 exact ⟨y,X',rfl,HI2.o,(Kp.of_bel HB0.o).trans HK2.o (fun _ _ h=>h),fun b hb=>(HX2.o b hb).imp id (fun h=>Za HB0.o.size h),HR2.o.mono (fun b hb=>⟨Za HB0.o.size hb.1,hb.2⟩)⟩
theorem zQl {P:Program} {f:Func} {R:Ending->World->Prop} {e:Exit} {a:Act} {W:World} {E:World->Prop} (hE:E W) (h:∀ w,E w->bodyPost P f R e a w):bodyPost P f R e a W:=h W hE
end Go.Proofs.YtklbmkaomojciaaGreat
set_option maxRecDepth 100000
set_option maxHeartbeats 4000000
namespace Go.Proofs.YtklbmkaomojciaaGreat
open Go.RowKit
def FlB (Bo:Nat->Prop) (gm gk:Nat) (X:Nat->Prop) (v:Value) (b:Nat):Prop:=Bo b∨(X b/\b≠gm/\b≠gk/\v.ownBlock≠some b)
structure FlE (W0:World) (Bo:Nat->Prop) (m gm gk:Nat) (X:Nat->Prop) (l:List Me) (c:Nat) (v:Value) (W:World):Prop where
 kp:Kp (·<m) W0 W
 top:m<=W0.heap.size
 lo:∀ b,Bo b->b<m
 xm:X gm
 xk:X gk
 ne:gm≠gk
 bm:Blk W gm [v] 68
 bk:Blk W gk [.int .i64 (c:Int)] 3
 low:∀ b,X b->m<=b/\b<W.heap.size
 row:qQb 4 (rdMe (FlB Bo gm gk X v)) m 31 W v l
 own:∀ b,v.ownBlock=some b->X b/\b≠gm/\b≠gk
section
variable {W0:World} {Bo:Nat->Prop} {m gm gk:Nat} {X:Nat->Prop} {l:List Me} {c:Nat} {v:Value} {W W':World}
theorem FlE.keep (h:FlE W0 Bo m gm gk X l c v W) (k:Kp (fun b=>b<m∨X b) W W'):FlE W0 Bo m gm gk X l c v W':=by
 have hs:=Za h.top h.kp.size
 have hlo:=h.lo
 refine ⟨h.kp.trans k (fun _ _ hb=>.inl hb),h.top,h.lo,h.xm,h.xk,h.ne,h.bm.of (k.block _ (h.low _ h.xm).2 (.inr h.xm)),h.bk.of (k.block _ (h.low _ h.xk).2 (.inr h.xk)),fun b hb=>⟨(h.low b hb).1,Zc (h.low b hb).2 k.size⟩,h.row.redo (fun b hb=>k.block b (h.low b (h.own b hb).1).2 (.inr (h.own b hb).1)) (fun cs y _ hr=>hr.agree (fun b hb=>?_)),h.own⟩
 rcases hb with hb | ⟨hb,_⟩
 ·have:=hlo b hb
  exact k.block b (by omega) (.inl this)
 ·exact k.block b (h.low b hb).2 (.inr hb)
theorem FlE.bel (h:FlE W0 Bo m gm gk X l c v W) (b:Bel W W'):FlE W0 Bo m gm gk X l c v W':=h.keep (Kp.of_bel b)
theorem FlE.more (h:FlE W0 Bo m gm gk X l c v W) {lo:Nat} (hlo:m<=lo):FlE W0 Bo m gm gk (fun b=>X b∨(lo<=b/\b<W.heap.size)) l c v W:=by
 refine ⟨h.kp,h.top,h.lo,.inl h.xm,.inl h.xk,h.ne,h.bm,h.bk,fun b hb=>?_,h.row.mono (fun cs y _ hr=>hr.mono (fun b hb=>?_)),fun b hb=>⟨.inl (h.own b hb).1,(h.own b hb).2⟩⟩
 ·rcases hb with hb | hb
  ·exact h.low b hb
  ·omega
 ·rcases hb with hb | ⟨hb,h2⟩
  ·exact .inl hb
  ·exact .inr ⟨.inl hb,h2⟩
theorem FlE.count (h:FlE W0 Bo m gm gk X l c v W):FlE W0 Bo m gm gk X l (c+1) v (W.setCell ⟨gk,0,none⟩ (.int .i64 ((c:Int)+1))):=by
 have hk:=(h.low _ h.xk).1
 have hs:=Za h.top h.kp.size
 have hlo:=h.lo
 have hb:∀ b,b≠gk->(W.setCell ⟨gk,0,none⟩ (.int .i64 ((c:Int)+1))).heap[b]?=W.heap[b]?:=fun b hb=>Below.heap_setCell W _ _ b hb
 refine ⟨h.kp.trans (K':=(·<m)) ⟨rfl,rfl,rfl,Nat.le_of_eq (World.size_setCell ..).symm,fun b _ hb'=>hb b (by omega)⟩ (fun _ _ hb=>hb),h.top,h.lo,h.xm,h.xk,h.ne,h.bm.of (hb _ h.ne),?_,fun b hb=>by rw [World.size_setCell];exact h.low b hb,h.row.redo (fun b hb'=>hb b (h.own b hb').2.2) (fun cs y _ hr=>hr.agree (fun b hb'=>hb b ?_)),h.own⟩
 ·have:=h.bk.set 0 (.int .i64 ((c:Int)+1))
  simpa using this
 ·rcases hb' with hb' | hb'
  ·have:=hlo b hb'
   omega
  ·exact hb'.2.2.1
theorem FlE.push (h:FlE W0 Bo m gm gk X l c v W) {M:Me} {v':Value} (o:qQb 4 (fun _ cs y=>rdMe (FlB Bo gm gk X v) W cs y) m 31 W' v' (l++[M])) (g:W.grownBy W' v.ownBlock) (f:qZe W v v') :
 FlE W0 Bo m gm gk (fun b=>X b∨(W.heap.size<=b/\b<W'.heap.size)) (l++[M]) c v' (W'.setCell ⟨gm,0,none⟩ v')/\Kp (fun b=>¬ X b) W (W'.setCell ⟨gm,0,none⟩ v'):=by
 have hm:=(h.low _ h.xm)
 have hk:=(h.low _ h.xk)
 have hs:=Za h.top h.kp.size
 have hlo:=h.lo
 have hb:∀ b,b<W.heap.size->b≠gm->v.ownBlock≠some b->(W'.setCell ⟨gm,0,none⟩ v').heap[b]?=W.heap[b]?:=fun b h1 h2 h3=>(Below.heap_setCell W' _ _ b h2).trans (g.block b h1 (fun e=>h3 e.symm))
 have hv':∀ b,v'.ownBlock=some b->(v.ownBlock=some b)∨W.heap.size<=b:=fun b e=>by
  rcases f with f | ⟨k,f,hk⟩
  ·rw [f] at e;exact .inl e
  ·rw [f] at e;cases e;exact .inr hk
 have hsz:(W'.setCell ⟨gm,0,none⟩ v').heap.size=W'.heap.size:=World.size_setCell ..
 have hvl:=h.row.lt
 have hol:=o.lt
 refine ⟨⟨h.kp.trans (K':=(·<m)) ⟨g.os,g.tape,g.output,by rw [hsz];exact g.size,fun b h1 h2=>hb b h1 (by omega) (fun e=>by have:=(hvl b e).1;omega)⟩ (fun _ _ hb=>hb),h.top,h.lo,.inl h.xm,.inl h.xk,h.ne,?_,h.bk.of (hb gk hk.2 (fun e=>h.ne e.symm) (fun e=>(h.own _ e).2.2 rfl)),fun b hb'=>?_,o.redo (fun b hb'=>Below.heap_setCell W' _ _ b ?_) (fun cs y _ hr=>(rdMe.agree (w':=W'.setCell ⟨gm,0,none⟩ v') (fun b hb'=>?_) hr).mono (fun b hb'=>?_)),fun b hb'=>?_⟩,⟨g.os,g.tape,g.output,by rw [hsz];exact g.size,fun b h1 h2=>hb b h1 (fun e=>h2 (e▸h.xm)) (fun e=>h2 (h.own b e).1)⟩⟩
 ·have:=(h.bm.of (g.block gm hm.2 (fun e=>(h.own _ e.symm).2.1 rfl))).set 0 v'
  simpa using this
 ·rw [hsz]
  rcases hb' with hb' | hb'
  ·have:=h.low b hb'
   have:=g.size
   omega
  ·omega
 ·show b≠gm
  rcases hv' b hb' with e | e
  ·exact (h.own b e).2.1
  ·omega
 ·rcases hb' with hb' | ⟨h1,h2,h3,h4⟩
  ·have:=hlo b hb'
   exact hb b (by omega) (by omega) (fun e=>by have:=(hvl b e).1;omega)
  ·exact hb b (h.low b h1).2 h2 h4
 ·rcases hb' with hb' | ⟨h1,h2,h3,h4⟩
  ·exact .inl hb'
  ·refine .inr ⟨.inl h1,h2,h3,fun e=>?_⟩
   rcases hv' b e with e | e
   ·exact h4 e
   ·have:=(h.low b h1).2;omega
 ·rcases hv' b hb' with e | e
  ·exact ⟨.inl (h.own b e).1,(h.own b e).2⟩
  ·exact ⟨.inr ⟨e,(hol b hb').2⟩,by omega,by omega⟩
end
theorem zYc (n:Int) (a b:Txt) (ua:Option Addr) (un uc:Nat) (w:World):(Instr.buildSlice 68 1 #[(0,.agg #[.int .i64 n,.string ⟨a.toArray⟩,.string ⟨b.toArray⟩,.slice ua un uc])]).run Tryz.prog w =
 .ok (.slice (some ⟨w.heap.size,0,none⟩) 1 1) (w.alloc (.cells #[.int .i64 n,.string ⟨a.toArray⟩,.string ⟨b.toArray⟩,.slice ua un uc] 31)):=by kernel_rfl
theorem MeC.kp {w w':World} {Bo:Nat->Prop} {m b o:Nat} {M:Me} {uv:Value} (h:MeC Bo w b o M uv) (hb:Bo b) (hlo:∀ b,Bo b->b<m) (hm:m<=w.heap.size) (k:Kp (·<m) w w'):MeC Bo w' b o M uv:=by
 have hbl:=k.block b (Zc (hlo b hb) hm) (hlo b hb)
 exact ⟨(World.cell?_of_block (a:=⟨b,o,none⟩) hbl).trans h.node,(World.cell?_of_block (a:=⟨b,o+1,none⟩) hbl).trans h.name,(World.cell?_of_block (a:=⟨b,o+2,none⟩) hbl).trans h.about,(World.cell?_of_block (a:=⟨b,o+3,none⟩) hbl).trans h.uses,qQa.agree h.usesAt (fun x hx=>k.block x (Zc (hlo x hx) hm) (hlo x hx)) (fun _ _ _ h=>h)⟩
theorem zJt {W0 W:World} {Bo:Nat->Prop} {m ge gm gc gk c:Nat} {X:Nat->Prop} {dv tv mv iv cv v:Value} {d:Dc} {C:List Clm} {memos l:List Me} {dirty:List Int} (n:Int) (h:FlE W0 Bo m gm gk X l c v W) (gd:Good d) (hC:∀ c∈C,isM d c.kid false=true) (hCl:C.length<=1000)
 (hv:qZb m W0 dv d) (hme:qJ3 Bo W0 mv memos) (hi:qKf m W0 iv dirty) (hcl:qQa 2 qVh (·<m) W0 cv C) (hge:ge<m) (hE:Blk W0 ge [dv,tv,mv,iv] 70) (hgc:gc<m) (hCb:Blk W0 gc [cv] 26)
 (kept:∀ x∈memos,qYt x dirty=true->x=meOf x.node (qKv d C x.node)) (hll:l.length<=1000000000) (hcc:c<=1000000000) :
 Calls Tryz.prog 85 #[.int .i64 n,.pointer (some ⟨ge,0,none⟩),.pointer (some ⟨gm,0,none⟩),.pointer (some ⟨gc,0,none⟩),.pointer (some ⟨gk,0,none⟩)] W (fun e w'=>∃ ua un uc v' X',e=.returned (.agg #[.int .i64 n,.string ⟨(qKv d C n).name.toArray⟩,.string ⟨(qKv d C n).about.toArray⟩,.slice ua un uc]) /\
  FlE W0 Bo m gm gk X' (l++[meOf n (qKv d C n)]) (if keptM dirty n memos then c else c+1) v' w'/\Kp (fun b=>¬ X b) W w'/\∀ b,X' b->X b∨W.heap.size<=b):=by
 obtain ⟨da,dc,rfl,_,_⟩:=Rf hv
 obtain ⟨ma,mc,rfl,_,_⟩:=Rf hme
 obtain ⟨ia,ic,rfl,_,_⟩:=Rf hi
 obtain ⟨ca,cc,rfl,_,_⟩:=Rf hcl
 have hs0:m<=W.heap.size:=Za h.top h.kp.size
 have hst:∀ W',Kp (·<m) W0 W'->qZb m W' (.slice da d.length dc) d/\qJ3 Bo W' (.slice ma memos.length mc) memos/\qKf m W' (.slice ia dirty.length ic) dirty/\qQa 2 qVh (·<m) W' (.slice ca C.length cc) C/\Blk W' ge [.slice da d.length dc,tv,.slice ma memos.length mc,.slice ia dirty.length ic] 70/\Blk W' gc [.slice ca C.length cc] 26:=fun W' hk=>by
  have ha:qZs (·<m) W0 W':=hk.agree (fun b hb=>⟨Zc hb h.top,hb⟩)
  exact ⟨(show qJ4 (·<m) W0 _ d from hv).agree ha,hme.agree (fun b hb=>ha b (h.lo b hb)),qQa.agree hi ha (fun _ _ _ h=>h),qQa.agree hcl ha (fun _ _ _ h=>h),hE.of (hk.block _ (Zc hge h.top) hge),hCb.of (hk.block _ (Zc hgc h.top) hgc)⟩
 obtain ⟨w1,hw1⟩:∃ w1,w1=(W.alloc (.cells #[.int .i64 n] 3)).alloc (.cells #[.int .i64 0,.string ⟨#[]⟩,.string ⟨#[]⟩,.slice none 0 0] 31):=⟨_,rfl⟩
 have hB1:Bel W w1:=by rw [hw1];exact ((Br W).alloc _).alloc _
 have hK1:Blk w1 W.heap.size [.int .i64 n] 3:=by rw [hw1];exact (Blk.new' W _ rfl _ _).bel ((Br _).alloc _)
 have hK2:Blk w1 (W.heap.size+1) [.int .i64 0,.string ⟨#[]⟩,.string ⟨#[]⟩,.slice none 0 0] 31:=by rw [hw1];exact Blk.new' _ _ (by simp) _ _
 have hkp1:Kp (·<m) W0 w1:=(h.bel hB1).kp
 obtain ⟨a1,a2,a3,a4,a5,a6⟩:=hst w1 hkp1
 have hm1:m<=w1.heap.size:=Za hs0 hB1.size
 have k1:=hK1.cell 0
 have e0:=a5.cell 0
 have e2:=a5.cell 2
 have e3:=a5.cell 3
 simp only [Zd,Ze] at k1 e0 e2 e3
 have cI:=lH (qGt (a2.mono (fun b hb=>h.lo b hb)) hm1 k1)
 have HST:=lH hst
 have HH:=lH (h.bel hB1)
 have HB1:=lH hB1
 have HK1:=lH hK1
 have HK2:=lH hK2
 have HKPT:=lH kept
 have HN0:=lH (zHn (x:=n) (D:=dirty) memos 0)
 have hxl:∀ b,X b->b<W.heap.size:=fun b hb=>(h.low b hb).2
 have hnaming:∀ W',Kp (·<m) W0 W'->Calls Tryz.prog 19 #[.slice da d.length dc,.slice ca C.length cc,.int .i64 n] W' (Rn W' fun w' y=>∃ uv,y=.agg #[.int .i64 n,.string ⟨(qKv d C n).name.toArray⟩,.string ⟨(qKv d C n).about.toArray⟩,uv]/\qQb 1 qQf W'.heap.size 3 w' uv (qKv d C n).uses):=fun W' hk=>by
  obtain ⟨a1,_,_,a4,_,_⟩:=hst W' hk
  exact zQb m _ _ d C n W' a1 a4 (Za h.top hk.size) gd hC hCl
 have HQ:Hi (∃ q,qKv d C n=q):=lH ⟨_,rfl⟩
 clear hst h hB1 hK1 hK2 hkp1 a1 a2 a3 a4 a5 a6 kept hv hme hi hcl hE hCb
 obtain ⟨Q,hQ⟩:=HQ.o
 rw [hQ] at hnaming ⊢
 replace HQ:=lH hQ
 clear hQ
 obtain ⟨qn,qa,qu⟩:=Q
 simp only [meOf] at hnaming ⊢
 go_enter Tryz.func85,Tryz.ntmps85
 go_upto_region 1 with fail
 rw [<- hw1]
 clear hw1
 go_upto_region 2 with (go_at_call 86;(with_reducible refine qKb cI.o fun w2 HB2=>?_))
 obtain ⟨va,vc,rfl,v1,v2⟩:=Rf HH.o.row.read
 have HXL:Hi (∀ b,X b->b<W.heap.size):=lH hxl
 clear hxl
 have HIX:=lH hnaming
 clear hnaming
 cases hq:keptM dirty n memos with
 | true=>
   obtain ⟨j,hj,x1,x2,x3⟩:∃ (k:Nat) (h:k<memos.length),idxMe n memos 0=((0+k:Nat):Int)/\memos[k].node=n/\keptM dirty n memos=qYt memos[k] dirty:=by
    rcases HN0.o with ⟨_,e,_⟩ | h
    ·rw [hq] at e;cases e
    ·exact h
   rw [hq] at x3
   rw [x1,Nat.zero_add]
   have hkeep:=HKPT.o _ (Zl hj) x3.symm
   rw [x2,HQ.o] at hkeep
   have hFl2:=HH.o.bel HB2.o
   have hm2:m<=w2.heap.size:=Za HH.o.top hFl2.kp.size
   obtain ⟨b,off,cap,uv,e1,_,_,hb,hI⟩:=(HST.o w2 hFl2.kp).2.1.item j hj
   simp at e1
   obtain ⟨rfl,rfl⟩:=e1
   have cF:Hi (∀ W',Bel w2 W'->Calls Tryz.prog 88 #[.pointer (some ⟨b,off+j*4,none⟩),.slice ia dirty.length ic] W' (Rb (.bool true) W')):=lH (fun W' hW=>by
    rw [x3]
    exact qYw (hI.kp hb HH.o.lo hm2 (Kp.of_bel hW)) (fun x hx=>Zc (Zc (HH.o.lo x hx) hm2) hW.size) (HST.o W' (hFl2.bel hW).kp).2.2.1 (Za hm2 hW.size))
   rw [hkeep] at hI
   have HJ:Hi (keptM dirty n memos=true):=lH hq
   have CI:Hi (∀ w',Kp (·<m) w2 w'->w'.cell? ⟨ge,2,none⟩=some (.slice (some ⟨b,off,none⟩) memos.length mc)/\w'.cell? ⟨ge,3,none⟩=some (.slice ia dirty.length ic)/\MeC Bo w' b (off+j*4) ⟨n,qn,qa,qu⟩ uv):=lH (fun w' hk=>by
    have q:=(HST.o w' (hFl2.kp.trans hk (fun _ _ h=>h))).2.2.2.2.1
    exact ⟨by simpa using q.cell 2,by simpa using q.cell 3,hI.kp hb HH.o.lo hm2 hk⟩)
   have HF2:=lH hFl2
   have HBM:=lH hb
   obtain ⟨ua,uc,rfl,u1,u2⟩:=Rf hI.usesAt
   clear hI hkeep hFl2 x1 x2 x3 hq hb
   refine qKr [0,1,2,3,4,5,6,7,8,9,10] [] (fun w'=>Bel w2 w') (by kernel_rfl) (by kernel_rfl) (Br w2).drew ?_
   simp only [pickL,List.filterMap_cons,List.filterMap_nil,Zd,Ze]
   iterate 11 (first
 | (refine DetL.cons (v:=?_) (fun _=>Says.plain ?_ ?_) ?_;rotate_left;rfl;(intro w' hS;obtain ⟨q2,q3,-⟩:=CI.o w' (Kp.of_bel hS);clear hS;go_simp;with_reducible rfl);simp only [Act.put,Zh,Zf,Zg])
 | (refine DetL.cons (v:=?_) (fun _=>Says.call (f:=?_) (args:=?_) ?_ ?_ ?_) ?_;rotate_left 3;rfl;(intro w';go_simp;constructor <;> with_reducible rfl);(intro w' hS;refine Calls.mono (cF.o _ hS) ?_;rintro e w'' ⟨rfl,hb⟩;refine ⟨?_,Bt hS hb⟩;with_reducible rfl);simp only [Act.put,Zh,Zf,Zg]))
   refine DetL.nil (fun w3 hS3=>?_)
   have HB3:=lH hS3
   clear hS3
   go_upto_region 3 with fail
   have hF3:=HF2.o.bel HB3.o
   have hR3:=HK2.o.bel (Bt HB2.o HB3.o)
   have hx3:W.heap.size+1<w2.heap.size:=by have:=HK2.o.lt;have:=HB2.o.size;omega
   have HX3:=lH hx3
   clear hx3
   refine qZf [0,1,2,3,4,5] [(6,some 30,[]),(7,some 31,[6])] [8] (fun x W'=>Kp (·<m) w2 W'/\Blk W' gm [.slice va l.length vc] 68/\Blk W' (W.heap.size+1) [.int .i64 0,.string ⟨#[]⟩,.string ⟨#[]⟩,.slice none 0 0] 31/\(x 7=none->Bel w3 W'/\∀ u,x 6=some u->∃ gg,u=.slice (some ⟨gg,0,none⟩) 1 1/\Blk W' gg (qHk ⟨n,qn,qa,qu⟩ (.slice ua qu.length uc)) 31) /\
    (∀ u,x 7=some u->(∃ za zn zc,u=.slice za zn zc)/\∃ Wb,Bel w3 Wb/\qQb 4 (fun _ cs y=>rdMe (FlB Bo gm gk X (.slice va l.length vc)) Wb cs y) m 31 W' u (l++[⟨n,qn,qa,qu⟩])/\Wb.grownBy W' (Value.slice va l.length vc).ownBlock/\qZe Wb (.slice va l.length vc) u)/\∀ u,x 7=some u->∃ u',x 6=some u') (by kernel_rfl) (by kernel_rfl) ⟨Kp.of_bel HB3.o.drew,hF3.bm.drew,hR3.drew,(fun _=>⟨(Br w3).drew,fun u h=>by cases h⟩),(fun u h=>by cases h),fun u h=>by cases h⟩ ?_
   simp only [pickL,List.map_cons,List.map_nil,List.filterMap_cons,List.filterMap_nil,Zd,Ze]
   iterate 6 (refine qZt.cons (v:=?_) (fun _=>Says.plain ?_ ?_) ?_;rotate_left;rfl;(intro w' hS;obtain ⟨q2,q3,hq⟩:=CI.o w' hS.1;have qm:=hS.2.1.cell 0;simp only [Zd] at qm;have p0:=hq.node;have p1:=hq.name;have p2:=hq.about;have p3:=hq.uses;clear hS hq;go_simp;with_reducible rfl);simp only [Act.put,Zh,Zf,Zg])
   refine qZt.nil ⟨by simp,⟨?_,?_,trivial⟩,?_⟩
   ·intro x ρ W' hx hn' hr' hT
    obtain ⟨t1,t2,t3,t4,t5,t6⟩:=hT
    have h7:x 7=none:=by
     cases e:x 7 with
     | none=>rfl
     | some u=>
       obtain ⟨u',h⟩:=t6 u e
       rw [hx] at h
       cases h
    obtain ⟨hb3,_⟩:=t4 h7
    have h7':∀ u,setX x 6 u 7=none:=fun u=>by rw [qQn _ (by decide)];exact h7
    have hal:Bel W' (W'.alloc (.cells #[.int .i64 n,.string ⟨qn.toArray⟩,.string ⟨qa.toArray⟩,.slice ua qu.length uc] 31)):=(Br W').alloc _
    refine zQ5 rfl (hr'.1 (.tmp 29) (by simp)) (zYc _ _ _ _ _ _ W') ⟨t1.trans (Kp.of_bel hal) (fun _ _ h=>h),t2.bel hal,t3.bel hal,(fun _=>⟨Bt hb3 hal,fun u hu=>?_⟩),(fun u hu=>?_),fun u hu=>?_⟩
    ·rw [qQl] at hu
     cases hu
     exact ⟨_,rfl,Blk.new' W' _ rfl _ _⟩
    ·rw [h7'] at hu
     cases hu
    ·rw [h7'] at hu
     cases hu
   ·intro x ρ W' hx hn' hr' hT
    obtain ⟨t1,t2,t3,t4,t5,t6⟩:=hT
    obtain ⟨hb3,t4⟩:=t4 hx
    obtain ⟨u6,hu6⟩:=hn' 6 (by simp)
    obtain ⟨gg,rfl,hGG⟩:=t4 u6 hu6
    have hFb:=(HF2.o.bel HB3.o).bel hb3
    have hmb:m<=W'.heap.size:=Za HH.o.top hFb.kp.size
    have hme:rdMe (FlB Bo gm gk X (.slice va l.length vc)) W' (qHk ⟨n,qn,qa,qu⟩ (.slice ua qu.length uc)) ⟨n,qn,qa,qu⟩:=⟨_,rfl,(CI.o W' t1).2.2.usesAt.mono (fun _ h=>.inl h) (fun _ _ _ h=>h)⟩
    refine qH6 rfl qDr (by decide) (rd:=fun _ cs y=>rdMe (FlB Bo gm gk X (.slice va l.length vc)) W' cs y) (fun _ _ _ _ h=>h) (hr'.1 (.tmp 24) (by simp)) (hFb.row.mono (fun _ _ _ h=>h)) (hr'.2 (6,some 30,[]) (by simp) 30 _ rfl hu6) hGG rfl (y:=(⟨n,qn,qa,qu⟩:Me)) hme (zHi rfl) (by omega) (by omega) hmb ?_
    intro v7 w7 o7 g7 f7
    obtain ⟨za,zc,rfl,_,_⟩:=Rf o7.read
    refine ⟨t1.trans (K':=(·<m)) (Kp.of_grown g7 (fun b _ hb e=>by have:=(hFb.row.lt b e.symm).1;omega)) (fun _ _ h=>h),t2.of (g7.block _ t2.lt (fun e=>(hFb.own _ e.symm).2.1 rfl)),t3.of (g7.block _ t3.lt (fun e=>by have:=HXL.o _ (hFb.own _ e.symm).1;omega)),(fun h=>?_),(fun u hu=>?_),fun u hu=>⟨_,by rw [qQn _ (by decide)];exact hu6⟩⟩
    ·rw [qQl] at h
     cases h
    ·rw [qQl] at hu
     cases hu
     exact ⟨⟨_,_,_,rfl⟩,W',hb3,o7,g7,f7⟩
   ·intro U w8 hT
    obtain ⟨t1,t2,t3,t4,t5,t6⟩:=hT
    obtain ⟨⟨za,zn,zc,e7⟩,Wb,hbb,r1,r2,r3⟩:=t5 (U 7) rfl
    simp only [List.foldl_cons,List.foldl_nil,Zh,Zf,Zg]
    rw [e7] at r1 r3 ⊢
    have hFb:=(HF2.o.bel HB3.o).bel hbb
    obtain ⟨hP,hPk⟩:=hFb.push r1 r2 r3
    have hgr:W.heap.size+1≠gm:=fun e=>by have:=HXL.o _ HH.o.xm;omega
    have hR9:=t3.of (Below.heap_setCell w8 ⟨gm,0,none⟩ (.slice za zn zc) (W.heap.size+1) hgr)
    have hk9:Kp (·<m) w2 (w8.setCell ⟨gm,0,none⟩ (.slice za zn zc)):=(Kp.of_bel (Bt HB3.o hbb)).trans hPk (fun b h1 h2 hx=>by have:=(HF2.o.low b hx).1;omega)
    have qm:=t2.cell 0
    have qf:=t2.frozen 0
    simp only [Zd] at qm
    have hsb:=hbb.size
    have hs3:=HB3.o.size
    have hnx:¬ (X (W.heap.size+1)∨(Wb.heap.size<=W.heap.size+1/\W.heap.size+1<w8.heap.size)):=by
     rintro (h | h)
     ·have:=HXL.o _ h;omega
     ·have:=HX3.o;omega
    have hKW:Kp (fun b=>¬ X b) W (w8.setCell ⟨gm,0,none⟩ (.slice za zn zc)):=(Kp.of_bel (Bt HB1.o (Bt HB2.o (Bt HB3.o hbb)))).trans hPk (fun _ _ h=>h)
    have HP:=lH hP
    have HR9:=lH hR9
    have HK9:=lH hk9
    have HKW:=lH hKW
    have HNX:=lH hnx
    have HSB:Hi (W.heap.size<=Wb.heap.size):=lH (by have:=HB1.o.size;have:=HB2.o.size;omega)
    clear t1 t2 t3 t4 t5 t6 e7 r1 r2 r3 hFb hP hPk hR9 hk9 hgr hnx hKW hsb hs3
    go_upto_region 4 with fail
    clear qm qf
    generalize w8.setCell ⟨gm,0,none⟩ (.slice za zn zc)=w9 at *
    obtain ⟨q2,q3,hq⟩:=CI.o w9 HK9.o
    have p0:=hq.node
    have p1:=hq.name
    have p2:=hq.about
    have p3:=hq.uses
    have r0:=HR9.o.cell 0
    have r1:=HR9.o.cell 1
    have r2:=HR9.o.cell 2
    have r3:=HR9.o.cell 3
    have s0:=HR9.o.frozen 0
    have s1:=HR9.o.frozen 1
    have s2:=HR9.o.frozen 2
    have s3:=HR9.o.frozen 3
    simp only [Zd,Ze] at r0 r1 r2 r3
    clear hq
    go_wp2
    refine zQl (E:=fun W'=>Blk W' (W.heap.size+1) [.int .i64 n,.string ⟨qn.toArray⟩,.string ⟨qa.toArray⟩,.slice ua qu.length uc] 31/\FrE (W.heap.size+1) w9 W') ⟨(((HR9.o.set 0 _).set 1 _).set 2 _).set 3 _,((((FrE.refl _ w9).set _).set _).set _).set _⟩ ?_
    clear r0 r1 r2 r3 s0 s1 s2 s3
    rintro wz ⟨hRz,hFz⟩
    have r0:=hRz.cell 0
    have r1:=hRz.cell 1
    have r2:=hRz.cell 2
    have r3:=hRz.cell 3
    simp only [Zd,Ze] at r0 r1 r2 r3
    have hkz:Kp (fun b=>b<m∨(X b∨(Wb.heap.size<=b/\b<w8.heap.size))) w9 wz:=⟨hFz.os,hFz.tape,hFz.output,hFz.size,fun b h1 h2=>hFz.block b h1 (fun e=>by
     subst e
     rcases h2 with h | h
     ·omega
     ·exact HNX.o h)⟩
    have hkx:Kp (fun b=>b≠W.heap.size+1) w9 wz:=⟨hFz.os,hFz.tape,hFz.output,hFz.size,fun b h1 h2=>hFz.block b h1 h2⟩
    refine bodyPost_ret (v:=.agg #[.int .i64 n,.string ⟨qn.toArray⟩,.string ⟨qa.toArray⟩,.slice ua qu.length uc]) (by simp [results,Tryz.results85,go_sem,r0,r1,r2,r3]) rfl ?_
    refine ⟨⟨ua,_,uc,rfl⟩,.slice za zn zc,(fun b=>X b∨(Wb.heap.size<=b/\b<w8.heap.size)),?_,HKW.o.trans hkx (fun b hb _ e=>by omega),fun b hb=>?_⟩
    ·exact HP.o.keep hkz
    ·rcases hb with h | h
     ·exact .inl h
     ·exact .inr (Za HSB.o h.1)
 | false=>
   have HJ:Hi (¬ keptM dirty n memos=true):=lH (by rw [hq];simp)
   have hFl2:=HH.o.bel HB2.o
   have hm2:m<=w2.heap.size:=Za HH.o.top hFl2.kp.size
   rcases HN0.o with ⟨x1,x2,x3⟩ | ⟨j,hj,x1,x2,x3⟩
   case' inl=>
    rw [x1]
    clear x1 x2 x3 hq
    refine qKr [0,1,2,3,4,5,6,7,8,9,10] [] (fun w'=>Bel w2 w') (by kernel_rfl) (by kernel_rfl) (Br w2).drew ?_
    simp only [pickL,List.filterMap_cons,List.filterMap_nil,Zd,Ze]
    iterate 11 (first
 | (refine DetL.cons (v:=?_) (fun _=>Says.plain ?_ ?_) ?_;rotate_left;rfl;(intro w' hS;clear hS;go_simp;with_reducible rfl);simp only [Act.put,Zh,Zf,Zg])
 | (refine DetL.cons (fun _=>Says.skip ?_) ?_;rfl;simp only [Act.put,Zh,Zf,Zg]))
    refine DetL.nil (fun w3 hS3=>?_)
   case' inr=>
    rw [hq] at x3
    rw [x1,Nat.zero_add]
    obtain ⟨b,off,cap,uv,e1,_,_,hb,hI⟩:=(HST.o w2 hFl2.kp).2.1.item j hj
    simp at e1
    obtain ⟨rfl,rfl⟩:=e1
    have cF:Hi (∀ W',Bel w2 W'->Calls Tryz.prog 88 #[.pointer (some ⟨b,off+j*4,none⟩),.slice ia dirty.length ic] W' (Rb (.bool false) W')):=lH (fun W' hW=>by
     rw [x3]
     exact qYw (hI.kp hb HH.o.lo hm2 (Kp.of_bel hW)) (fun x hx=>Zc (Zc (HH.o.lo x hx) hm2) hW.size) (HST.o W' (hFl2.bel hW).kp).2.2.1 (Za hm2 hW.size))
    have CI:Hi (∀ w',Kp (·<m) w2 w'->w'.cell? ⟨ge,2,none⟩=some (.slice (some ⟨b,off,none⟩) memos.length mc)/\w'.cell? ⟨ge,3,none⟩=some (.slice ia dirty.length ic)):=lH (fun w' hk=>by
     have q:=(HST.o w' (hFl2.kp.trans hk (fun _ _ h=>h))).2.2.2.2.1
     exact ⟨by simpa using q.cell 2,by simpa using q.cell 3⟩)
    clear hI x1 x2 x3 hq hb
    refine qKr [0,1,2,3,4,5,6,7,8,9,10] [] (fun w'=>Bel w2 w') (by kernel_rfl) (by kernel_rfl) (Br w2).drew ?_
    simp only [pickL,List.filterMap_cons,List.filterMap_nil,Zd,Ze]
    iterate 11 (first
 | (refine DetL.cons (v:=?_) (fun _=>Says.plain ?_ ?_) ?_;rotate_left;rfl;(intro w' hS;obtain ⟨q2,q3⟩:=CI.o w' (Kp.of_bel hS);clear hS;go_simp;with_reducible rfl);simp only [Act.put,Zh,Zf,Zg])
 | (refine DetL.cons (v:=?_) (fun _=>Says.call (f:=?_) (args:=?_) ?_ ?_ ?_) ?_;rotate_left 3;rfl;(intro w';go_simp;constructor <;> with_reducible rfl);(intro w' hS;refine Calls.mono (cF.o _ hS) ?_;rintro e w'' ⟨rfl,hb⟩;refine ⟨?_,Bt hS hb⟩;with_reducible rfl);simp only [Act.put,Zh,Zf,Zg]))
    refine DetL.nil (fun w3 hS3=>?_)
   all_goals
    have hF3:=hFl2.bel hS3
    have q5:=(HST.o w3 hF3.kp).2.2.2.2.1.cell 0
    have q6:=(HST.o w3 hF3.kp).2.2.2.2.2.cell 0
    have q7:=(HK1.o.bel (Bt HB2.o hS3)).cell 0
    have hR3:=HK2.o.bel (Bt HB2.o hS3)
    simp only [Zd] at q5 q6 q7
    have cN:=lH (HIX.o w3 hF3.kp)
    have HF3:=lH hF3
    have HR3:=lH hR3
    have HB3:=lH (Bt HB1.o (Bt HB2.o hS3))
    have HM3:Hi (m<=w3.heap.size):=lH (Za HH.o.top hF3.kp.size)
    have HX3:Hi (W.heap.size+1<w3.heap.size):=lH hR3.lt
    clear hF3 hR3 hS3 hFl2 hm2
    go_upto_region 6 with (go_at_call 19;(with_reducible refine cN.o.mono ?_);rintro e w5 ⟨b5,y5,rfl,uv,rfl,o5⟩;obtain ⟨ua,uc,rfl,u1,u2⟩:=Rf o5.read;have HB5:=lH b5;have HO5:=lH o5;clear b5 o5)
    clear q5 q6 q7
    have hB6:Bel w5 (w5.alloc (.cells #[.int .i64 n,.string ⟨qn.toArray⟩,.string ⟨qa.toArray⟩,.slice ua qu.length uc] 31)):=(Br w5).alloc _
    have hK6:Blk (w5.alloc (.cells #[.int .i64 n,.string ⟨qn.toArray⟩,.string ⟨qa.toArray⟩,.slice ua qu.length uc] 31)) w5.heap.size [.int .i64 n,.string ⟨qn.toArray⟩,.string ⟨qa.toArray⟩,.slice ua qu.length uc] 31:=Blk.new' w5 _ rfl _ _
    have HB6:=lH hB6
    have HK6:=lH hK6
    clear hB6 hK6
    generalize (w5.alloc (.cells #[.int .i64 n,.string ⟨qn.toArray⟩,.string ⟨qa.toArray⟩,.slice ua qu.length uc] 31))=w6 at *
    have hF6:=((HF3.o.bel HB5.o).more HM3.o).bel HB6.o
    have kb:=hF6.bk.cell 0
    have kf:=hF6.bk.frozen 0
    simp only [Zd] at kb
    have HF6:=lH hF6
    clear hF6
    go_upto_region 7 with fail
    have hF7:=HF6.o.count
    have hK7:=HK6.o.of (Below.heap_setCell w6 ⟨gk,0,none⟩ (.int .i64 ((c:Int)+1)) w5.heap.size (fun e=>by have:=HXL.o _ HH.o.xk;have:=HX3.o;have:=HB5.o.size;have e':w5.heap.size=gk:=e;omega))
    have hR7:=((HR3.o.bel HB5.o).bel HB6.o).of (Below.heap_setCell w6 ⟨gk,0,none⟩ (.int .i64 ((c:Int)+1)) (W.heap.size+1) (fun e=>by have:=HXL.o _ HH.o.xk;have e':W.heap.size+1=gk:=e;omega))
    have hU7:qQa 1 qQf (FlB Bo gm gk (fun b=>X b∨(w3.heap.size<=b/\b<w5.heap.size)) (.slice va l.length vc)) (w6.setCell ⟨gk,0,none⟩ (.int .i64 ((c:Int)+1))) (.slice ua qu.length uc) qu:=by
     have h1:=HB5.o.size
     have h2:=HB6.o.size
     have h3:=HX3.o
     refine (qQa.agree (w':=w6.setCell ⟨gk,0,none⟩ (.int .i64 ((c:Int)+1))) HO5.o.row (fun b hb=>?_) (fun _ _ _ h=>h)).mono (fun b hb=>Or.inr ⟨Or.inr ⟨hb.1,hb.2.1⟩,fun e=>?_,fun e=>?_,fun e=>?_⟩) (fun _ _ _ h=>h)
     ·refine (Below.heap_setCell w6 _ _ b (fun e=>?_)).trans (HB6.o.block b hb.2.1)
      have e':b=gk:=e
      have:=HXL.o _ HH.o.xk
      have:=hb.1
      omega
     ·have:=HXL.o _ HH.o.xm;have:=hb.1;omega
     ·have:=HXL.o _ HH.o.xk;have:=hb.1;omega
     ·have:=HXL.o _ (HH.o.own b e).1;have:=hb.1;omega
    have hk7:Kp (fun b=>¬ X b) W (w6.setCell ⟨gk,0,none⟩ (.int .i64 ((c:Int)+1))):=(Kp.of_bel (Bt HB3.o (Bt HB5.o HB6.o))).trans (K':=fun b=>¬ X b) ⟨rfl,rfl,rfl,Nat.le_of_eq (World.size_setCell ..).symm,fun b _ hb=>Below.heap_setCell w6 _ _ b (fun e=>hb (by have e':b=gk:=e;rw [e'];exact HH.o.xk))⟩ (fun _ _ h=>h)
    have hs7:(w6.setCell ⟨gk,0,none⟩ (.int .i64 ((c:Int)+1))).heap.size=w6.heap.size:=World.size_setCell ..
    have HF7:=lH hF7
    have HK7:=lH hK7
    have HR7:=lH hR7
    have HU7:=lH hU7
    have HKW7:=lH hk7
    have HS7:=lH hs7
    clear hF7 hK7 hR7 hU7 hk7 hs7 kb kf
    generalize (w6.setCell ⟨gk,0,none⟩ (.int .i64 ((c:Int)+1)))=w7 at *
    have q0:=HF7.o.bm.cell 0
    have p0:=HK7.o.cell 0
    have p1:=HK7.o.cell 1
    have p2:=HK7.o.cell 2
    have p3:=HK7.o.cell 3
    simp only [Zd,Ze] at q0 p0 p1 p2 p3
    have HO7:Hi (qQb 4 (fun _ cs y=>rdMe (FlB Bo gm gk (fun b=>X b∨(w3.heap.size<=b/\b<w5.heap.size)) (.slice va l.length vc)) w7 cs y) m 31 w7 (.slice va l.length vc) l):=lH (HF7.o.row.mono (fun _ _ _ h=>h))
    have S7:m<=w7.heap.size:=Za HH.o.top HF7.o.kp.size
    have hz8:(l++[(⟨n,qn,qa,qu⟩:Me)]).length=l.length+1:=by simp
    go_upto_region 8 with (at_builtin;(refine qYh rfl _ _ _ rfl qDr (by decide) (rd:=fun _ cs y=>rdMe (FlB Bo gm gk (fun b=>X b∨(w3.heap.size<=b/\b<w5.heap.size)) (.slice va l.length vc)) w7 cs y) (v:=.slice va l.length vc) ?hst ?hone (base:=m) rfl HO7.o rfl ?hgs (⟨n,qn,qa,qu⟩:Me) ?hC ?hby ?hmx S7 ?_;(case hst=>exact fun _ _ _ _ h=>h);(case hone=>intro _ cs y hr u hu;obtain ⟨uv,rfl,hr⟩:=hr;obtain ⟨a,c',rfl,_,_⟩:=Rf hr;exact zHi rfl u hu);(case hgs=>rfl);(case hC=>exact ⟨rfl,_,rfl,HU7.o⟩);(case hby=>omega);(case hmx=>omega);intro v8 w8 o8 g8 f8;obtain ⟨va8,vc8,rfl,v81,v82⟩:=Rf o8.read;rw [hz8] at o8 f8;obtain ⟨hP,hPk⟩:=HF7.o.push o8 g8 f8;have hm8:=HF7.o.bm.of (g8.block gm HF7.o.bm.lt (fun e=>(HF7.o.own _ e.symm).2.1 rfl));have q8:=hm8.cell 0;have qf8:=hm8.frozen 0;simp only [Zd] at q8;have HP:=lH hP;have HPK:=lH hPk;clear o8 g8 f8 hP hPk hm8))
    clear q0 q8 qf8 p0 p1 p2 p3
    have S3:=HB3.o.size
    have S5:=HB5.o.size
    have S6:=HB6.o.size
    have S36:=HS7.o
    have S56:w5.heap.size<w6.heap.size:=HK6.o.lt
    have X3:=HX3.o
    have hgr:¬ (X (W.heap.size+1)∨(w3.heap.size<=W.heap.size+1/\W.heap.size+1<w5.heap.size)):=by
     rintro (h | h)
     ·have:=HXL.o _ h;omega
     ·omega
    have hg5:¬ (X w5.heap.size∨(w3.heap.size<=w5.heap.size/\w5.heap.size<w5.heap.size)):=by
     rintro (h | h)
     ·have:=HXL.o _ h;omega
     ·omega
    have hR9:=HR7.o.of (HPK.o.block _ (by omega) hgr)
    have hK9:=HK7.o.of (HPK.o.block _ (by omega) hg5)
    have hKW:Kp (fun b=>¬ X b) W (w8.setCell ⟨gm,0,none⟩ (.slice va8 (l.length+1) vc8)):=HKW7.o.trans HPK.o (fun b h1 h2 h3=>by
     rcases h3 with h3 | h3
     ·exact h2 h3
     ·omega)
    have HR9:=lH hR9
    have HK9:=lH hK9
    have HKW:=lH hKW
    have HS78:Hi (w6.heap.size=w7.heap.size):=lH (by omega)
    clear hR9 hK9 hKW hgr hg5
    generalize (w8.setCell ⟨gm,0,none⟩ (.slice va8 (l.length+1) vc8))=w9 at *
    have r0:=HR9.o.cell 0
    have r1:=HR9.o.cell 1
    have r2:=HR9.o.cell 2
    have r3:=HR9.o.cell 3
    have s0:=HR9.o.frozen 0
    have s1:=HR9.o.frozen 1
    have s2:=HR9.o.frozen 2
    have s3:=HR9.o.frozen 3
    have p0:=HK9.o.cell 0
    have p1:=HK9.o.cell 1
    have p2:=HK9.o.cell 2
    have p3:=HK9.o.cell 3
    simp only [Zd,Ze] at r0 r1 r2 r3 p0 p1 p2 p3
    go_wp2
    refine zQl (E:=fun W'=>Blk W' (W.heap.size+1) [.int .i64 n,.string ⟨qn.toArray⟩,.string ⟨qa.toArray⟩,.slice ua qu.length uc] 31/\FrE (W.heap.size+1) w9 W') ⟨(((HR9.o.set 0 _).set 1 _).set 2 _).set 3 _,((((FrE.refl _ w9).set _).set _).set _).set _⟩ ?_
    clear r0 r1 r2 r3 s0 s1 s2 s3
    rintro wz ⟨hRz,hFz⟩
    have r0:=hRz.cell 0
    have r1:=hRz.cell 1
    have r2:=hRz.cell 2
    have r3:=hRz.cell 3
    simp only [Zd,Ze] at r0 r1 r2 r3
    have hkz:Kp (fun b=>b<m∨((X b∨(w3.heap.size<=b/\b<w5.heap.size))∨(w7.heap.size<=b/\b<w8.heap.size))) w9 wz:=⟨hFz.os,hFz.tape,hFz.output,hFz.size,fun b h1 h2=>hFz.block b h1 (fun e=>by
     subst e
     have M3:=HM3.o
     rcases h2 with h | (h | h) | h
     ·have:=Za HH.o.top HH.o.kp.size;have:=(HH.o.low _ HH.o.xm);have:=HXL.o _ HH.o.xm;omega
     ·have:=HXL.o _ h;omega
     ·omega
     ·have:=HS78.o;omega)⟩
    have hkx:Kp (fun b=>b≠W.heap.size+1) w9 wz:=⟨hFz.os,hFz.tape,hFz.output,hFz.size,fun b h1 h2=>hFz.block b h1 h2⟩
    refine bodyPost_ret (v:=.agg #[.int .i64 n,.string ⟨qn.toArray⟩,.string ⟨qa.toArray⟩,.slice ua qu.length uc]) (by simp [results,Tryz.results85,go_sem,r0,r1,r2,r3]) rfl ?_
    refine ⟨⟨ua,_,uc,rfl⟩,.slice va8 (l.length+1) vc8,(fun b=>(X b∨(w3.heap.size<=b/\b<w5.heap.size))∨(w7.heap.size<=b/\b<w8.heap.size)),?_,HKW.o.trans hkx (fun b hb _ e=>by omega),fun b hb=>?_⟩
    ·exact HP.o.keep hkz
    ·have:=HS78.o
     rcases hb with (h | h) | h
     ·exact .inl h
     ·exact .inr (by omega)
     ·exact .inr (by omega)
end Go.Proofs.YtklbmkaomojciaaGreat
