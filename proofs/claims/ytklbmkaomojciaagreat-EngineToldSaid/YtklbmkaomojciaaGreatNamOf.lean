/- Elements' names, walked: the memo of a node. -/
import Derived.Test.YtklbmkaomojciaaGreatNamWalk
import Derived.Test.YtklbmkaomojciaaGreatEngMath
set_option maxRecDepth 100000
set_option maxHeartbeats 4000000
namespace Go.Proofs.YtklbmkaomojciaaGreat
open Go.RowKit
theorem zFd {d:Dc} {x:Int} (h:isM d x false=true):∃ k:Nat,k<d.length/\x=(k:Int):=by
 obtain ⟨k,hk,e,-⟩:=qQz.1 h
 exact ⟨k,hk,e⟩
theorem zHc (d:Dc) (s:St):(qVw d s).Pairwise (·<=·)/\(qVw d s).Nodup:=by
 unfold qVw
 have h1:((List.range d.length).map (fun k:Nat=>(k:Int))).Pairwise (·<·):=by
  rw [List.pairwise_map]
  exact (List.pairwise_lt_range).imp (fun h=>by omega)
 exact ⟨(h1.imp (fun h=>Int.le_of_lt h)).filter _,List.Pairwise.imp (fun h=>by omega) (h1.filter _)⟩
theorem uses_eq {d:Dc} {s:St} {ks done:List Int} (hk:qHu d s) (hks:∀ x,s.asked x=ks.contains x) (hn:ks.Nodup) (hp:done.Perm ks):done.mergeSort leI=qVw d s:=by
 obtain ⟨r1,r2⟩:=zHc d s
 refine sort_eq (hp.trans ?_) r1
 refine (List.perm_ext_iff_of_nodup hn r2).2 (fun x=>?_)
 unfold qVw
 rw [List.mem_filter,hks]
 constructor
 ·intro hx
  have ha:s.asked x=true:=by rw [hks];simpa using hx
  obtain ⟨k,hk,rfl⟩:=zFd (hk x ha).1
  exact ⟨List.mem_map.2 ⟨k,List.mem_range.2 hk,rfl⟩,by simpa using hx⟩
 ·rintro ⟨_,hx⟩
  simpa using hx
theorem nost_ok (d:Dc):qHu d noSt:=fun x hx=>by simp [noSt] at hx
theorem qG7 (w:World) (a:Addr) (v:Value):w.grownBy (w.setCell a v) (some a.block):=⟨by simp [World.setCell],by simp [World.setCell],by simp [World.setCell],by simp,fun b _ hne=>Below.heap_setCell w a v b (fun e=>hne (by rw [e]))⟩
theorem NmM.else {m g h u:Nat} {dv cv:Value} {X:List Value} {e:TypeId} {d:Dc} {C:List Clm} {w w':World} {s:St} (k:NmM m g h u dv cv X e d C w s) {q:Nat} (gr:w.grownBy w' (some q)) (hq:m<=q/\q≠g/\q≠h/\q≠u):NmM m g h u dv cv X e d C w' s:=by
 obtain ⟨l1,l2,l3,l4⟩:=k.lts
 have hne:∀ b,b≠q->some b≠some q:=fun b hb e=>hb (Option.some.inj e)
 have hbm:Below m w w':=⟨gr.os,gr.tape,gr.output,gr.size,fun b hb=>gr.block b (by omega) (hne b (by omega))⟩
 refine ⟨k.doc.later hbm (Zb _),k.clm.later qZh hbm (Zb _),k.blk.of (gr.block g l1 (hne g (by omega))),?_,?_,k.ne,k.lo⟩
 ·obtain ⟨ks,h1,h2⟩:=k.had
  exact ⟨ks,h1.agree (gr.block h l2 (hne h (by omega))),h2⟩
 ·obtain ⟨ks,h1,h2⟩:=k.use
  exact ⟨ks,h1.agree (gr.block u l3 (hne u (by omega))),h2⟩
theorem NmAt.else {m g h u:Nat} {dv cv:Value} {X:List Value} {e:TypeId} {d:Dc} {C:List Clm} {w w':World} {s:St} (k:NmAt m g h u dv cv X e d C w s) {q:Nat} (gr:w.grownBy w' (some q)) (hq:m<=q/\q≠g/\q≠h/\q≠u):NmAt m g h u dv cv X e d C w' s:=⟨k.mem.else gr hq,k.ok⟩
theorem NmM.new {m:Nat} {dv cv:Value} {d:Dc} {C:List Clm} {w:World} (hd:qZb m w dv d) (hc:qQa 2 qVh (·<m) w cv C) (hm:m<=w.heap.size) (X:List Value) (e:TypeId) :
 NmM m (w.heap.size+2) w.heap.size (w.heap.size+1) dv cv X e d C (((w.alloc (.map #[] 0)).alloc (.map #[] 0)).alloc (.cells (dv::cv::.map (some w.heap.size)::.map (some (w.heap.size+1))::X).toArray e)) noSt:=by
 have hb:Bel w (((w.alloc (.map #[] 0)).alloc (.map #[] 0)).alloc (.cells (dv::cv::.map (some w.heap.size)::.map (some (w.heap.size+1))::X).toArray e)):=(((Br w).alloc _).alloc _).alloc _
 have s1:(w.alloc (.map #[] 0)).heap.size=w.heap.size+1:=by simp
 have s2:((w.alloc (.map #[] 0)).alloc (.map #[] 0)).heap.size=w.heap.size+2:=by simp
 refine ⟨hd.later hb hm,hc.later qZh hb hm,Blk.new _ _ s2.symm _ _,⟨[],?_,fun _=>rfl⟩,⟨[],?_,fun _=>rfl⟩,by omega,by omega⟩
 ·refine (qJ0.made w).agree ?_
  rw [heap_alloc_old _ _ (by rw [s2];omega),heap_alloc_old _ _ (by rw [s1];omega)]
 ·have:=qJ0.made (w.alloc (.map #[] 0))
  rw [s1] at this
  refine this.agree ?_
  rw [heap_alloc_old _ _ (by rw [s2];omega)]
def zXo (w:World) (q j:Nat):Nat:=match w.cell? ⟨q,j,none⟩ with | some (.slice _ n _)=>n | _=>0
theorem zQw {w:World} {q j n:Nat} {a:Option Addr} {c:Nat} (h:w.cell? ⟨q,j,none⟩=some (.slice a n c)):zXo w q j=n:=by unfold zXo;rw [h]
structure OfSt (m:Nat) (W:World) (q g h u:Nat) (dv cv:Value) (X:List Value) (d:Dc) (C:List Clm) (n:Int) (e6 e7 e8:TypeId) (w:World) (s:St) (name about:Txt):Prop where
 nm:NmAt m g h u dv cv X e8 d C w s
 out:Blk w q [.int .i64 n,.string ⟨name.toArray⟩,.string ⟨about.toArray⟩,.slice none 0 0] e7
 res:Blk w W.heap.size [.int .i64 0,.string ⟨#[]⟩,.string ⟨#[]⟩,.slice none 0 0] e6
 bel:Bel W w
 ne:W.heap.size<q/\q≠g/\q≠h/\q≠u/\W.heap.size<g/\W.heap.size<h/\W.heap.size<u/\m<=W.heap.size
section
variable {m:Nat} {W:World} {q g h u:Nat} {dv cv:Value} {X:List Value} {d:Dc} {C:List Clm} {n:Int} {e6 e7 e8:TypeId} {w w':World} {s s':St} {name about:Txt}
theorem OfSt.call (k:OfSt m W q g h u dv cv X d C n e6 e7 e8 w s name about) (x:Nmd h u w w') (y:NmAt m g h u dv cv X e8 d C w' s'):OfSt m W q g h u dv cv X d C n e6 e7 e8 w' s' name about:=by
 have hz:=k.res
 obtain ⟨n1,n2,n3,n4,n5,n6,n7,n8⟩:=k.ne
 exact ⟨y,k.out.of (x.block q k.out.lt n3 n4),hz.of (x.block _ hz.lt (by omega) (by omega)),Below.trans k.bel (x.below (by omega) (by omega) k.bel.size),k.ne⟩
theorem OfSt.bl (k:OfSt m W q g h u dv cv X d C n e6 e7 e8 w s name about) (x:Bel w w'):OfSt m W q g h u dv cv X d C n e6 e7 e8 w' s name about:=k.call (Nmd.bel x) ⟨k.nm.mem.bel x,k.nm.ok⟩
theorem OfSt.setName (k:OfSt m W q g h u dv cv X d C n e6 e7 e8 w s name about) (x:Txt):OfSt m W q g h u dv cv X d C n e6 e7 e8 (w.setCell ⟨q,1,none⟩ (.string ⟨x.toArray⟩)) s x about:=by
 have hz:=k.res
 obtain ⟨n1,n2,n3,n4,n5,n6,n7,n8⟩:=k.ne
 exact ⟨k.nm.else (qG7 w ⟨q,1,none⟩ _) (show m<=q/\q≠g/\q≠h/\q≠u by omega),k.out.set 1 _,hz.other _ _ (by show W.heap.size≠q;omega),k.bel.setCell q 1 _ (by omega),k.ne⟩
theorem OfSt.setAbout (k:OfSt m W q g h u dv cv X d C n e6 e7 e8 w s name about) (x:Txt):OfSt m W q g h u dv cv X d C n e6 e7 e8 (w.setCell ⟨q,2,none⟩ (.string ⟨x.toArray⟩)) s name x:=by
 have hz:=k.res
 obtain ⟨n1,n2,n3,n4,n5,n6,n7,n8⟩:=k.ne
 exact ⟨k.nm.else (qG7 w ⟨q,2,none⟩ _) (show m<=q/\q≠g/\q≠h/\q≠u by omega),k.out.set 2 _,hz.other _ _ (by show W.heap.size≠q;omega),k.bel.setCell q 2 _ (by omega),k.ne⟩
theorem OfSt.cells (k:OfSt m W q g h u dv cv X d C n e6 e7 e8 w s name about):w.cell? ⟨q,0,none⟩=some (.int .i64 n)/\w.cell? ⟨q,1,none⟩=some (.string ⟨name.toArray⟩)/\w.cell? ⟨q,2,none⟩=some (.string ⟨about.toArray⟩)/\w.cell? ⟨q,3,none⟩=some (.slice none 0 0)/\(∀ j,w.frozen? ⟨q,j,none⟩=false)/\∀ j,w.frozen? ⟨g,j,none⟩=false:=
 ⟨k.out.cell 0,k.out.cell 1,k.out.cell 2,k.out.cell 3,fun j=>k.out.frozen j,fun j=>k.nm.mem.blk.frozen j⟩
theorem OfSt.rehad (k:OfSt m W q g h u dv cv X d C n e6 e7 e8 w s name about) (h':Nat) {w1:World} (b1:Bel w w1) (hh:w.heap.size<=h') (hs:qJ0 w1 h' [n]) :
 OfSt m W q g h' u dv cv X d C n e6 e7 e8 (w1.setCell ⟨g,2,none⟩ (.map (some h'))) { had:=fun x=>x==n,asked:=s.asked } name about:=by
 have hz:=k.res
 obtain ⟨n1,n2,n3,n4,n5,n6,n7,n8⟩:=k.ne
 have k1:=k.bl b1
 obtain ⟨l1,l2,l3,l4⟩:=k.nm.mem.lts
 obtain ⟨l1',l2',l3',l4'⟩:=k1.nm.mem.lts
 have hu:=k.nm.mem.ne
 have hgn:=k.nm.mem.nes
 have hq:=k.out.lt
 have hW:=k.bel.size
 have gr:=qG7 w1 ⟨g,2,none⟩ (.map (some h'))
 have hne:∀ b,b≠g->some b≠some g:=fun b hb e=>hb (Option.some.inj e)
 have hbm:Below m w1 (w1.setCell ⟨g,2,none⟩ (.map (some h'))):=⟨gr.os,gr.tape,gr.output,gr.size,fun b hb=>gr.block b (by omega) (hne b (by have:=k.nm.mem.lo.1;omega))⟩
 have hz':=k1.res
 refine ⟨⟨⟨k1.nm.mem.doc.later hbm (Zb _),k1.nm.mem.clm.later qZh hbm (Zb _),k1.nm.mem.blk.set 2 _,⟨[n],hs.agree (gr.block h' hs.lt (hne h' (by omega))),fun x=>?_⟩,?_,by omega,by have:=k.nm.mem.lo;omega⟩,k.nm.ok⟩,k1.out.other _ _ (by show q≠g;omega),hz'.other _ _ (by show W.heap.size≠g;omega),k1.bel.setCell g 2 _ (by omega),by omega⟩
 ·show (x==n)=[n].contains x
  rw [Bool.eq_iff_iff]
  simp
 ·obtain ⟨ks,h1,h2⟩:=k1.nm.mem.use
  exact ⟨ks,h1.agree (gr.block u l3' (hne u (by omega))),h2⟩
end
theorem zWm {w w':World} (g:(w.alloc (.map #[] 0)).grownBy w' (some w.heap.size)):Bel w w':=by
 refine ⟨g.os,g.tape,g.output,Za (by simp) g.size,fun k hk=>?_⟩
 exact (g.block k (by simp;omega) (fun e=>by have:=Option.some.inj e;omega)).trans (Below.heap_alloc w _ k hk)
theorem zK5 (d:Dc) (C:List Clm) (n:Int) (r:Txt×St) :
 qBh d C n r=if (!(nd d n).tag.isEmpty&&!r.1.isEmpty)=true then (if ((qY0 d C n r.2).1.isEmpty&&!(sq d n titleT==r.1))=true then (sq d n titleT,(qY0 d C n r.2).2) else qY0 d C n r.2) else ([],r.2):=by
 unfold qBh
 have e1:((nd d n).tag≠[]/\r.1≠[])=((!(nd d n).tag.isEmpty&&!r.1.isEmpty)=true):=by cases (nd d n).tag <;> cases r.1 <;> simp
 have e2:((qY0 d C n r.2).1=[]/\sq d n titleT≠r.1)=(((qY0 d C n r.2).1.isEmpty&&!(sq d n titleT==r.1))=true):=by cases (qY0 d C n r.2).1 <;> simp
 simp only [e1,e2]
 split
 ·split
  ·rfl
  ·rfl
 ·rfl
theorem zW0 {d:Dc} {C:List Clm} (gd:Good d) {n:Int} (hn:isM d n false=true):(qBh d C n (qXz d C n)).2.asked n=true:=by
 have hm:(markM d n noSt).asked n=true:=by
  simp only [markM,Bool.or_eq_true,List.contains_iff_mem,zJe gd]
  exact .inr (.here (qQh.1 hn).1)
 have h0:(qXz d C n).2.asked n=true:=by
  unfold qXz
  split
  ·exact qYo _ _ _ _ _ _ hm
  ·exact hm
 unfold qBh
 split
 ·exact qWf (fun k s x h=>qYo _ _ _ _ _ _ h) _ _ _ h0
 ·exact h0
theorem Bel.of_none {a b:World} (g:a.grownBy b none):Bel a b:=⟨g.os,g.tape,g.output,g.size,fun k hk=>g.block k hk (by simp)⟩
theorem qKh.nodup {w:World} {b r:Nat} {ks done:List Int} (h:qKh w b r ks done):done.Nodup:=by
 obtain ⟨_,_,_,_,_,_,_,_,_,_,_,_,_,h9,_,_⟩:=h
 exact h9
theorem qKh.sub {w:World} {b r:Nat} {ks done:List Int} (h:qKh w b r ks done):∀ k∈done,k∈ks:=by
 obtain ⟨_,_,_,_,_,_,_,_,_,_,_,_,_,_,_,h11⟩:=h
 exact h11
theorem qKh.nodupK {w:World} {b r:Nat} {ks done:List Int} (h:qKh w b r ks done):ks.Nodup:=by
 obtain ⟨_,_,_,_,_,_,_,h3,_⟩:=h
 exact h3
theorem zXc (d:Dc) (C:List Clm) (n:Int):qXz d C n=if ((nd d n).tag.isEmpty||(kOf (qQd d n)).named)=true then qQt d C 100 n false false (markM d n noSt) else ([],markM d n noSt):=by
 unfold qXz
 have e1:((nd d n).tag=[]∨(kOf (qQd d n)).named=true)=(((nd d n).tag.isEmpty||(kOf (qQd d n)).named)=true):=by cases (nd d n).tag <;> simp
 simp only [e1]
theorem zYb (a0 a1 a2 a3 a4 a5 a6:Value) (w:World):(Instr.field 45 (.agg #[a0,a1,a2,a3,a4,a5,a6]) 5).run Tryz.prog w=.ok a5 w:=by kernel_rfl
theorem zQb (m:Nat) (dv cv:Value) (d:Dc) (C:List Clm) (n:Int) (W:World) (hv:qZb m W dv d) (hc:qQa 2 qVh (·<m) W cv C) (hm:m<=W.heap.size) (gd:Good d) (hC:∀ c∈C,isM d c.kid false=true) (hCl:C.length<=1000) :
 Calls Tryz.prog 19 #[dv,cv,.int .i64 n] W (Rn W fun w' y=>∃ uv,y=.agg #[.int .i64 n,.string ⟨(qKv d C n).name.toArray⟩,.string ⟨(qKv d C n).about.toArray⟩,uv]/\qQb 1 qQf W.heap.size 3 w' uv (qKv d C n).uses):=by
 have cI:Hi (∀ W',Bel W W'->Calls Tryz.prog 56 #[dv,.int .i64 n,.bool false] W' (Rv (.bool (isM d n false)) W')):=lH (fun W' hW=>qQ6 m dv d n false W' (hv.later hW hm))
 have hmm:=@run_makeMap Tryz.prog
 cases hi:isM d n false with
 | false=>
   rw [hi] at cI
   have hM:qKv d C n={}:=by unfold qKv;rw [hi];rfl
   rw [hM]
   go_enter Tryz.func19,Tryz.ntmps19
   go_wp2_with (go_at_call 56;(with_reducible refine (cI.o _ (((Br W).alloc _).alloc _)).mono ?_);rintro e1 w1 ⟨rfl,rfl⟩)
   refine bodyPost_ret (v:=.agg #[.int .i64 n,.string ⟨#[]⟩,.string ⟨#[]⟩,.slice none 0 0]) (by simp [results,Tryz.results19,go_sem]) rfl ?_
   exact ⟨((Br W).alloc _).alloc _,_,rfl,_,rfl,qQb.nil _ _ _⟩
 | true=>
   rw [hi] at cI
   have hM:qKv d C n=⟨(qXz d C n).1,(qBh d C n (qXz d C n)).1,qVw d (qBh d C n (qXz d C n)).2⟩:=by unfold qKv;rw [hi];rfl
   rw [hM]
   clear hM
   obtain ⟨p,hp,rfl,-⟩:=qQz.1 hi
   obtain ⟨b,off,cap,av,kv,sv,rfl,v1,v2,hbb,hN⟩:=hv.node p hp
   obtain ⟨ca,cc,rfl,cl1,cl2⟩:=Rf hc
   have kI0:=zQ0 qYs
   have hm0c:=zXc d C (p:Int)
   obtain ⟨r0,hr0⟩:∃ r,r=qXz d C (p:Int):=⟨_,rfl⟩
   have hm1c:=zK5 d C (p:Int) r0
   rw [<- hr0] at hm0c ⊢
   have hask:=zW0 (C:=C) gd hi
   rw [<- hr0] at hask
   obtain ⟨r1,hr1⟩:∃ r,r=qBh d C (p:Int) r0:=⟨_,rfl⟩
   rw [<- hr1] at hask
   have HASK:=lH hask
   clear hask
   rw [<- hr1] at hm1c ⊢
   rw [qQ2 hp] at hm0c hm1c
   have hsz:qZu d (markM d (p:Int) noSt).had<=100:=Za (zZt d _) (by have:=gd.len;omega)
   have cUse:Hi (∀ g h u w',NmAt m g h u (.slice (some ⟨b,off,none⟩) d.length cap) (.slice ca C.length cc) [] 94 d C w' noSt->Calls Tryz.prog 57 #[.pointer (some ⟨g,0,none⟩),.int .i64 (p:Int)] w' (Rm w' h u (.tuple #[]) (fun w''=>NmAt m g h u (.slice (some ⟨b,off,none⟩) d.length cap) (.slice ca C.length cc) [] 94 d C w'' (markM d (p:Int) noSt)))):=lH (fun g h u w' k=>(qV5 gd k.mem k.ok hi).mono (fun _ _ hh=>⟨hh.1,hh.2.1,⟨hh.2.2,k.ok.mark gd hi⟩⟩))
   have cOne:Hi (∀ g h u w',NmAt m g h u (.slice (some ⟨b,off,none⟩) d.length cap) (.slice ca C.length cc) [] 94 d C w' (markM d (p:Int) noSt)->Calls Tryz.prog 60 #[.pointer (some ⟨g,0,none⟩),.int .i64 (p:Int),.bool false,.bool false] w' (Rm w' h u (.string ⟨(qQt d C 100 (p:Int) false false (markM d (p:Int) noSt)).1.toArray⟩) (fun w''=>NmAt m g h u (.slice (some ⟨b,off,none⟩) d.length cap) (.slice ca C.length cc) [] 94 d C w'' (qQt d C 100 (p:Int) false false (markM d (p:Int) noSt)).2))):=lH (fun g h u w' k=>qV1 gd hC hCl 100 (p:Int) false false _ w' k hi rfl hsz)
   have cLi:Hi (∀ g h u w',NmAt m g h u (.slice (some ⟨b,off,none⟩) d.length cap) (.slice ca C.length cc) [] 94 d C w' { had:=fun x=>x==(p:Int),asked:=r0.2.asked }->Calls Tryz.prog 61 #[.pointer (some ⟨g,0,none⟩),.int .i64 (p:Int),.string ⟨#[97,114,105,97,45,100,101,115,99,114,105,98,101,100,98,121]⟩] w' (Rm w' h u (.string ⟨(qY0 d C (p:Int) r0.2).1.toArray⟩) (fun w''=>NmAt m g h u (.slice (some ⟨b,off,none⟩) d.length cap) (.slice ca C.length cc) [] 94 d C w'' (qY0 d C (p:Int) r0.2).2))):=lH (fun g h u w' k=>qYg gd hC (F:=100) (fun x li s' W' k' hx hs' hf'=>qV1 gd hC hCl 100 x true li s' W' k' hx hs' hf') k (Za (zZt d _) (by have:=gd.len;omega)) (p:Int) descT)
   have cAt:Hi (∀ g h u w' s,NmAt m g h u (.slice (some ⟨b,off,none⟩) d.length cap) (.slice ca C.length cc) [] 94 d C w' s->Calls Tryz.prog 62 #[.pointer (some ⟨g,0,none⟩),.int .i64 (p:Int),.string ⟨#[116,105,116,108,101]⟩] w' (Rb (.string ⟨(sq d (p:Int) titleT).toArray⟩) w')):=lH (fun g h u w' s k=>qJe gd k.mem (p:Int) titleT)
   have cRo:Hi (∀ w',Bel W w'->Calls Tryz.prog 59 #[.slice (some ⟨b,off,none⟩) d.length cap,.int .i64 (p:Int)] w' (Rb (.int .i64 (qQd d (p:Int))) w')):=lH (fun w' hW=>qKq m _ d _ w' (hv.later hW hm) (Za hm hW.size) gd)
   have cKo:=lH (qXc (qQd d (p:Int)))
   have HTG:Hi (∀ w',Bel W w'->w'.cell? ⟨b,off+p*9+1,none⟩=some (.string ⟨d[p].tag.toArray⟩)):=lH (fun w' hW=>zYw (hv.later hW hm) hp)
   have HNM:Hi (NmAt m (W.heap.size+1+1+1+1) (W.heap.size+1+1) (W.heap.size+1+1+1) (.slice (some ⟨b,off,none⟩) d.length cap) (.slice ca C.length cc) [] 94 d C (((((W.alloc (.cells #[.int .i64 0,.string ⟨#[]⟩,.string ⟨#[]⟩,.slice none 0 0] 31)).alloc (.cells #[.int .i64 (p:Int),.string ⟨#[]⟩,.string ⟨#[]⟩,.slice none 0 0] 31)).alloc (.map #[] 0)).alloc (.map #[] 0)).alloc (.cells #[.slice (some ⟨b,off,none⟩) d.length cap,.slice ca C.length cc,.map (some (W.heap.size+1+1)),.map (some (W.heap.size+1+1+1))] 94)) noSt):=by
    have hb2:Bel W ((W.alloc (.cells #[.int .i64 0,.string ⟨#[]⟩,.string ⟨#[]⟩,.slice none 0 0] 31)).alloc (.cells #[.int .i64 (p:Int),.string ⟨#[]⟩,.string ⟨#[]⟩,.slice none 0 0] 31)):=((Br W).alloc _).alloc _
    have hs2:((W.alloc (.cells #[.int .i64 0,.string ⟨#[]⟩,.string ⟨#[]⟩,.slice none 0 0] 31)).alloc (.cells #[.int .i64 (p:Int),.string ⟨#[]⟩,.string ⟨#[]⟩,.slice none 0 0] 31)).heap.size=W.heap.size+1+1:=by simp
    have:=NmM.new (hv.later hb2 hm) (hc.later qZh hb2 hm) (Za hm hb2.size) [] 94
    rw [hs2] at this
    exact lH ⟨this,nost_ok d⟩
   have HB5:Hi (Bel W (((((W.alloc (.cells #[.int .i64 0,.string ⟨#[]⟩,.string ⟨#[]⟩,.slice none 0 0] 31)).alloc (.cells #[.int .i64 (p:Int),.string ⟨#[]⟩,.string ⟨#[]⟩,.slice none 0 0] 31)).alloc (.map #[] 0)).alloc (.map #[] 0)).alloc (.cells #[.slice (some ⟨b,off,none⟩) d.length cap,.slice ca C.length cc,.map (some (W.heap.size+1+1)),.map (some (W.heap.size+1+1+1))] 94))):=lH (((((Br W).alloc _).alloc _).alloc _).alloc _ |>.alloc _)
   have HQ7:Hi (Blk (((((W.alloc (.cells #[.int .i64 0,.string ⟨#[]⟩,.string ⟨#[]⟩,.slice none 0 0] 31)).alloc (.cells #[.int .i64 (p:Int),.string ⟨#[]⟩,.string ⟨#[]⟩,.slice none 0 0] 31)).alloc (.map #[] 0)).alloc (.map #[] 0)).alloc (.cells #[.slice (some ⟨b,off,none⟩) d.length cap,.slice ca C.length cc,.map (some (W.heap.size+1+1)),.map (some (W.heap.size+1+1+1))] 94)) (W.heap.size+1) [.int .i64 (p:Int),.string ⟨#[]⟩,.string ⟨#[]⟩,.slice none 0 0] 31):=lH ((Blk.new' _ _ (by simp) _ _).bel ((((Br _).alloc _).alloc _).alloc _))
   have HQ6:Hi (Blk (((((W.alloc (.cells #[.int .i64 0,.string ⟨#[]⟩,.string ⟨#[]⟩,.slice none 0 0] 31)).alloc (.cells #[.int .i64 (p:Int),.string ⟨#[]⟩,.string ⟨#[]⟩,.slice none 0 0] 31)).alloc (.map #[] 0)).alloc (.map #[] 0)).alloc (.cells #[.slice (some ⟨b,off,none⟩) d.length cap,.slice ca C.length cc,.map (some (W.heap.size+1+1)),.map (some (W.heap.size+1+1+1))] 94)) W.heap.size [.int .i64 0,.string ⟨#[]⟩,.string ⟨#[]⟩,.slice none 0 0] 31):=lH ((Blk.new' W _ rfl _ _).bel (((((Br _).alloc _).alloc _).alloc _).alloc _))
   have hfl:=zYb
   clear hN hr0 hr1 hsz
   generalize hkk:kOf (qQd d (p:Int))=kk at *
   clear hkk
   obtain ⟨kname,kcont,kleaf,klev,kchk,knam,kneed⟩:=kk
   generalize qQd d (p:Int)=rl at *
   generalize sq d (p:Int) titleT=tt at *
   generalize hTg:d[p].tag=tg at *
   clear hTg
   simp only at hm0c cKo
   have HM0:=lH hm0c
   have HGL:=lH gd.len
   have HM1:=lH hm1c
   have HM:=lH hm
   clear hm0c hm1c
   go_enter Tryz.func19,Tryz.ntmps19
   go_upto_region 5 with (go_at_call 56;(with_reducible refine (cI.o _ (((Br W).alloc _).alloc _)).mono ?_);rintro e1 w1 ⟨rfl,rfl⟩)
   refine qQq (E:=fun w'=>OfSt m W (W.heap.size+1) (W.heap.size+1+1+1+1) (W.heap.size+1+1) (W.heap.size+1+1+1) (.slice (some ⟨b,off,none⟩) d.length cap) (.slice ca C.length cc) [] d C (p:Int) 31 31 94 w' noSt [] []) ⟨HNM.o,HQ7.o,HQ6.o,HB5.o,by have:=HM.o;omega⟩ ?_
   clear HNM HQ7 HQ6 HB5
   generalize W.heap.size+1+1+1+1=g
   generalize W.heap.size+1+1+1=u
   generalize W.heap.size+1+1=h
   generalize W.heap.size+1=q
   intro w5 hS5
   have HS:=lH hS5
   have c0:=hS5.nm.mem.c0
   have c3:=hS5.nm.mem.c3
   clear hS5
   have hcase:tg.isEmpty=true∨(tg.isEmpty=false/\knam=false)∨(tg.isEmpty=false/\knam=true/\r0.1.isEmpty=true)∨(tg.isEmpty=false/\knam=true/\r0.1.isEmpty=false):=by
    cases tg.isEmpty <;> cases knam <;> cases r0.1.isEmpty <;> simp
   refine hcase.elim ?ca (fun hh=>hh.elim ?cb (fun hh=>hh.elim ?cc ?cd))
   case' ca=>
    intro htg
    have hr0:r0=qQt d C 100 (p:Int) false false (markM d (p:Int) noSt):=by rw [HM0.o,htg];rfl
    have hr1:r1=([],r0.2):=by rw [HM1.o,htg];rfl
    have HR0:=lH hr0
    have HR1:=lH hr1
    clear hr0 hr1
    go_upto_region 8 with (first
 | (go_at_call 57;(with_reducible refine (cUse.o _ _ _ _ HS.o.nm).mono ?_);rintro e1 w6 ⟨rfl,d6,k6⟩;have HS:=lH (HS.o.call d6 k6);have t1:=HTG.o _ HS.o.bel;clear d6 k6)
 | (go_at_call 59;(with_reducible refine (cRo.o _ HS.o.bel).mono ?_);rintro e1 w7 ⟨rfl,b7⟩;have HS:=lH (HS.o.bl b7);clear b7)
 | (go_at_call 58;(with_reducible refine (cKo.o _).mono ?_);rintro e1 w8 ⟨rfl,b8⟩;have HS:=lH (HS.o.bl b8);have t1:=HTG.o _ HS.o.bel;clear b8)
 | (go_at_call 60;(with_reducible refine (cOne.o _ _ _ _ HS.o.nm).mono ?_);rintro e1 w9 ⟨rfl,d9,k9⟩;have HS:=lH (HS.o.call d9 k9);obtain ⟨x0,x1,x2,x3,fx,fg⟩:=HS.o.cells;have f1:=fx 1;have f2:=fx 2;have fg2:=fg 2;clear fx fg;clear d9 k9))
    refine qQq (E:=fun w'=>OfSt m W q g h u (.slice (some ⟨b,off,none⟩) d.length cap) (.slice ca C.length cc) [] d C (p:Int) 31 31 94 w' r0.2 r0.1 []) (by rw [HR0.o];exact HS.o.setName _) ?_
    intro w10 hS10
    have HS:=lH hS10
    have t1:=HTG.o _ hS10.bel
    have x1:=hS10.cells.2.1
    clear hS10
    go_upto_region 14 with fail
    refine qQq (E:=fun w'=>∃ (h':Nat) (s:St),OfSt m W q g h' u (.slice (some ⟨b,off,none⟩) d.length cap) (.slice ca C.length cc) [] d C (p:Int) 31 31 94 w' s r0.1 r1.1/\s.asked=r1.2.asked) ⟨h,r0.2,by rw [HR1.o];exact HS.o,by rw [HR1.o]⟩ ?_
   case' cb=>
    rintro ⟨htg,rfl⟩
    have hr0:r0=([],markM d (p:Int) noSt):=by rw [HM0.o,htg];rfl
    have hr1:r1=([],r0.2):=by rw [HM1.o,htg,hr0];rfl
    have hne:r0.1=[]:=by rw [hr0]
    have HR0:=lH hr0
    have HR1:=lH hr1
    have HNE:=lH hne
    clear hr0 hr1 hne
    go_upto_region 8 with (first
 | (go_at_call 57;(with_reducible refine (cUse.o _ _ _ _ HS.o.nm).mono ?_);rintro e1 w6 ⟨rfl,d6,k6⟩;have HS:=lH (HS.o.call d6 k6);have t1:=HTG.o _ HS.o.bel;clear d6 k6)
 | (go_at_call 59;(with_reducible refine (cRo.o _ HS.o.bel).mono ?_);rintro e1 w7 ⟨rfl,b7⟩;have HS:=lH (HS.o.bl b7);clear b7)
 | (go_at_call 58;(with_reducible refine (cKo.o _).mono ?_);rintro e1 w8 ⟨rfl,b8⟩;have HS:=lH (HS.o.bl b8);have t1:=HTG.o _ HS.o.bel;clear b8)
 | (go_at_call 60;(with_reducible refine (cOne.o _ _ _ _ HS.o.nm).mono ?_);rintro e1 w9 ⟨rfl,d9,k9⟩;have HS:=lH (HS.o.call d9 k9);obtain ⟨x0,x1,x2,x3,fx,fg⟩:=HS.o.cells;have f1:=fx 1;have f2:=fx 2;have fg2:=fg 2;clear fx fg;clear d9 k9))
    refine qQq (E:=fun w'=>OfSt m W q g h u (.slice (some ⟨b,off,none⟩) d.length cap) (.slice ca C.length cc) [] d C (p:Int) 31 31 94 w' r0.2 r0.1 []) (by rw [HR0.o];exact HS.o) ?_
    intro w10 hS10
    have HS:=lH hS10
    have t1:=HTG.o _ hS10.bel
    have x1:=hS10.cells.2.1
    clear hS10
    rw [HNE.o] at x1
    go_upto_region 14 with fail
    refine qQq (E:=fun w'=>∃ (h':Nat) (s:St),OfSt m W q g h' u (.slice (some ⟨b,off,none⟩) d.length cap) (.slice ca C.length cc) [] d C (p:Int) 31 31 94 w' s r0.1 r1.1/\s.asked=r1.2.asked) ⟨h,r0.2,by rw [HR1.o];exact HS.o,by rw [HR1.o]⟩ ?_
   case' cc=>
    rintro ⟨htg,rfl,hnm⟩
    have hr0:r0=qQt d C 100 (p:Int) false false (markM d (p:Int) noSt):=by rw [HM0.o,htg];rfl
    have hr1:r1=([],r0.2):=by rw [HM1.o,htg,hnm];rfl
    have HR0:=lH hr0
    have HR1:=lH hr1
    clear hr0 hr1
    go_upto_region 8 with (first
 | (go_at_call 57;(with_reducible refine (cUse.o _ _ _ _ HS.o.nm).mono ?_);rintro e1 w6 ⟨rfl,d6,k6⟩;have HS:=lH (HS.o.call d6 k6);have t1:=HTG.o _ HS.o.bel;clear d6 k6)
 | (go_at_call 59;(with_reducible refine (cRo.o _ HS.o.bel).mono ?_);rintro e1 w7 ⟨rfl,b7⟩;have HS:=lH (HS.o.bl b7);clear b7)
 | (go_at_call 58;(with_reducible refine (cKo.o _).mono ?_);rintro e1 w8 ⟨rfl,b8⟩;have HS:=lH (HS.o.bl b8);have t1:=HTG.o _ HS.o.bel;clear b8)
 | (go_at_call 60;(with_reducible refine (cOne.o _ _ _ _ HS.o.nm).mono ?_);rintro e1 w9 ⟨rfl,d9,k9⟩;have HS:=lH (HS.o.call d9 k9);obtain ⟨x0,x1,x2,x3,fx,fg⟩:=HS.o.cells;have f1:=fx 1;have f2:=fx 2;have fg2:=fg 2;clear fx fg;clear d9 k9))
    refine qQq (E:=fun w'=>OfSt m W q g h u (.slice (some ⟨b,off,none⟩) d.length cap) (.slice ca C.length cc) [] d C (p:Int) 31 31 94 w' r0.2 r0.1 []) (by rw [HR0.o];exact HS.o.setName _) ?_
    intro w10 hS10
    have HS:=lH hS10
    have t1:=HTG.o _ hS10.bel
    have x1:=hS10.cells.2.1
    clear hS10
    go_upto_region 14 with fail
    refine qQq (E:=fun w'=>∃ (h':Nat) (s:St),OfSt m W q g h' u (.slice (some ⟨b,off,none⟩) d.length cap) (.slice ca C.length cc) [] d C (p:Int) 31 31 94 w' s r0.1 r1.1/\s.asked=r1.2.asked) ⟨h,r0.2,by rw [HR1.o];exact HS.o,by rw [HR1.o]⟩ ?_
   case' cd=>
    rintro ⟨htg,rfl,hnm⟩
    have hr0:r0=qQt d C 100 (p:Int) false false (markM d (p:Int) noSt):=by rw [HM0.o,htg];rfl
    have hr1:r1=(if ((qY0 d C (p:Int) r0.2).1.isEmpty&&!(tt==r0.1))=true then (tt,(qY0 d C (p:Int) r0.2).2) else qY0 d C (p:Int) r0.2):=by rw [HM1.o,htg,hnm];rfl
    have HR0:=lH hr0
    have HR1:=lH hr1
    clear hr0 hr1
    go_upto_region 8 with (first
 | (go_at_call 57;(with_reducible refine (cUse.o _ _ _ _ HS.o.nm).mono ?_);rintro e1 w6 ⟨rfl,d6,k6⟩;have HS:=lH (HS.o.call d6 k6);have t1:=HTG.o _ HS.o.bel;clear d6 k6)
 | (go_at_call 59;(with_reducible refine (cRo.o _ HS.o.bel).mono ?_);rintro e1 w7 ⟨rfl,b7⟩;have HS:=lH (HS.o.bl b7);clear b7)
 | (go_at_call 58;(with_reducible refine (cKo.o _).mono ?_);rintro e1 w8 ⟨rfl,b8⟩;have HS:=lH (HS.o.bl b8);have t1:=HTG.o _ HS.o.bel;clear b8)
 | (go_at_call 60;(with_reducible refine (cOne.o _ _ _ _ HS.o.nm).mono ?_);rintro e1 w9 ⟨rfl,d9,k9⟩;have HS:=lH (HS.o.call d9 k9);obtain ⟨x0,x1,x2,x3,fx,fg⟩:=HS.o.cells;have f1:=fx 1;have f2:=fx 2;have fg2:=fg 2;clear fx fg;clear d9 k9))
    refine qQq (E:=fun w'=>OfSt m W q g h u (.slice (some ⟨b,off,none⟩) d.length cap) (.slice ca C.length cc) [] d C (p:Int) 31 31 94 w' r0.2 r0.1 []) (by rw [HR0.o];exact HS.o.setName _) ?_
    intro w10 hS10
    have HS:=lH hS10
    have t1:=HTG.o _ hS10.bel
    have x1:=hS10.cells.2.1
    clear hS10
    have c2:=HS.o.nm.mem.c2
    have fg2:w10.frozen? ⟨g,2,none⟩=false:=HS.o.cells.2.2.2.2.2 2
    have HMD:=lH (qJ0.made w10)
    have HGW:Hi (∀ w',Bel w10 w'->w'.cell? ⟨g,2,none⟩=some (.map (some h))/\w'.frozen? ⟨g,2,none⟩=false):=lH (fun w' hb=>⟨(HS.o.bl hb).nm.mem.c2,(HS.o.bl hb).cells.2.2.2.2.2 2⟩)
    clear HR0 c2 fg2
    go_upto_region 10 with (with_reducible refine qJw rfl (.inl rfl) qQy kI0 HMD.o (p:Int) rfl rfl rfl ?_;intro w11 q11 g11 z11;have B11:=lH (zWm g11);have HSI:=lH q11;obtain ⟨c2,fg2⟩:=HGW.o _ B11.o;clear q11 g11 z11)
    refine qQq (E:=fun w'=>OfSt m W q g w10.heap.size u (.slice (some ⟨b,off,none⟩) d.length cap) (.slice ca C.length cc) [] d C (p:Int) 31 31 94 w' { had:=fun x=>x==(p:Int),asked:=r0.2.asked } r0.1 []) (HS.o.rehad w10.heap.size B11.o (Zb _) HSI.o) ?_
    clear HMD HGW B11 HSI c2 fg2
    generalize w10.heap.size=h2
    intro w12 hS12
    have HS:=lH hS12
    clear hS12 t1 x1
    obtain ⟨dq,hdq⟩:∃ x,x=qY0 d C (p:Int) r0.2:=⟨_,rfl⟩
    rw [<- hdq] at cLi HR1
    clear hdq
    go_upto_region 11 with (go_at_call 61;(with_reducible refine (cLi.o _ _ _ _ HS.o.nm).mono ?_);rintro e1 w13 ⟨rfl,d9,k9⟩;have HS:=lH (HS.o.call d9 k9);obtain ⟨x0,x1,x2,x3,fx,fg⟩:=HS.o.cells;have f1:=fx 1;have f2:=fx 2;have fg2:=fg 2;clear fx fg;clear d9 k9)
    refine qQq (E:=fun w'=>OfSt m W q g h2 u (.slice (some ⟨b,off,none⟩) d.length cap) (.slice ca C.length cc) [] d C (p:Int) 31 31 94 w' dq.2 r0.1 dq.1) (HS.o.setAbout _) ?_
    intro w14 hS14
    have HS:=lH hS14
    clear hS14 x0 x1 x2 x3 f1 f2 fg2
    go_upto_region 12 with (go_at_call 62;(with_reducible refine (cAt.o _ _ _ _ _ HS.o.nm).mono ?_);rintro e1 w15 ⟨rfl,b7⟩;have HS:=lH (HS.o.bl b7);obtain ⟨x0,x1,x2,x3,fx,fg⟩:=HS.o.cells;have f1:=fx 1;have f2:=fx 2;have fg2:=fg 2;clear fx fg;clear b7)
    have hcase2:dq.1.isEmpty=false∨(dq.1.isEmpty=true/\(tt==r0.1)=true)∨(dq.1.isEmpty=true/\(tt==r0.1)=false):=by
     cases dq.1.isEmpty <;> cases (tt==r0.1) <;> simp
    refine hcase2.elim ?ce (fun hh=>hh.elim ?cf ?cg)
   case' ce=>
    intro hq1
    have hr1:r1=dq:=by rw [HR1.o,hq1];rfl
    have HR1:=lH hr1
    clear hr1
    go_upto_region 14 with fail
    refine qQq (E:=fun w'=>∃ (h':Nat) (s:St),OfSt m W q g h' u (.slice (some ⟨b,off,none⟩) d.length cap) (.slice ca C.length cc) [] d C (p:Int) 31 31 94 w' s r0.1 r1.1/\s.asked=r1.2.asked) ⟨h2,dq.2,by rw [HR1.o];exact HS.o,by rw [HR1.o]⟩ ?_
   case' cf=>
    rintro ⟨hq1,hq2⟩
    have hr1:r1=dq:=by rw [HR1.o,hq1,hq2];rfl
    have HR1:=lH hr1
    clear hr1
    go_upto_region 14 with fail
    refine qQq (E:=fun w'=>∃ (h':Nat) (s:St),OfSt m W q g h' u (.slice (some ⟨b,off,none⟩) d.length cap) (.slice ca C.length cc) [] d C (p:Int) 31 31 94 w' s r0.1 r1.1/\s.asked=r1.2.asked) ⟨h2,dq.2,by rw [HR1.o];exact HS.o,by rw [HR1.o]⟩ ?_
   case' cg=>
    rintro ⟨hq1,hq2⟩
    have hr1:r1=(tt,dq.2):=by rw [HR1.o,hq1,hq2];rfl
    have HR1:=lH hr1
    clear hr1
    go_upto_region 14 with fail
    refine qQq (E:=fun w'=>∃ (h':Nat) (s:St),OfSt m W q g h' u (.slice (some ⟨b,off,none⟩) d.length cap) (.slice ca C.length cc) [] d C (p:Int) 31 31 94 w' s r0.1 r1.1/\s.asked=r1.2.asked) ⟨h2,dq.2,by rw [HR1.o];exact HS.o.setAbout _,by rw [HR1.o]⟩ ?_
   all_goals
    clear HS
    rintro w20 ⟨h',s,hS,hAs⟩
    have HS:=lH hS
    have HAS:=lH hAs
    have c3:=hS.nm.mem.c3
    clear hS hAs
    obtain ⟨ks,hU,hks⟩:=HS.o.nm.mem.use
    have HU:=lH hU
    have HKS:=lH hks
    have hne:ks≠[]:=fun e=>by have:=hks (p:Int);rw [HAS.o,HASK.o,e] at this;simp at this
    have HNE:=lH hne
    have HLN:Hi (∀ l:List Int,l.Nodup->(∀ x∈l,x∈ks)->l.length<=60):=lH (fun l h1 h2=>by
     have:=qK3 d.length l h1 (fun x hx=>by
      have ha:s.asked x=true:=by rw [HKS.o];simpa using h2 x hx
      obtain ⟨k,hk,rfl⟩:=zFd (HS.o.nm.ok x ha).1
      omega)
     have:=HGL.o
     omega)
    clear hU hks hne
    go_wp2_with (at_range;refine zKs rfl rfl qQy rfl HU.o ?_;intro w21 i21 g21 z21;have HI:=lH i21;have HS21:=lH (HS.o.bl (Bel.of_none g21));have Z21:=lH z21;clear i21 g21 z21)
    go_frame
    have hqr:q<w20.heap.size:=HS.o.out.lt
    have HQR:=lH hqr
    clear hqr
    go_loopw [10] (fun _ wr=>∃ (done:List Int) (uv:Value),qKh wr u w20.heap.size ks done/\Blk wr q [.int .i64 (p:Int),.string ⟨r0.1.toArray⟩,.string ⟨r1.1.toArray⟩,uv] 31/\qQb 1 qQf w21.heap.size 3 wr uv done/\Bel W wr/\w21.heap.size<=wr.heap.size/\Blk wr W.heap.size [.int .i64 0,.string ⟨#[]⟩,.string ⟨#[]⟩,.slice none 0 0] 31) (fun _ wr=>100 - zXo wr q 3)
    case atStart=>exact ⟨[],_,HI.o,HS21.o.out,qQb.nil _ _ _,HS21.o.bel,Zb _,HS21.o.res⟩
    case round=>
     obtain ⟨done,uv,hI,hQ,hO,hB,hSz,hz⟩:=hrel
     have HI:=lH hI
     have HQ:=lH hQ
     have HO:=lH hO
     have HB:=lH hB
     have HZ:=lH hz
     have HSZ:=lH hSz
     have hlen:=HLN.o done hI.nodup hI.sub
     obtain ⟨ua,uc,rfl,o1,o2⟩:=Rf hO.read
     have HCL:=lH (zQw (hQ.cell 3))
     have HOB:=lH (fun b hb=>hO.lt b hb)
     have z21:=Z21.o
     have hqr:=HQR.o
     have n0:=HS.o.ne
     have HU21:Hi (u<w20.heap.size/\W.heap.size<w20.heap.size):=lH ⟨HU.o.lt,by omega⟩
     clear hI hQ hO hB hz hSz
     go_wp2_with (at_next;refine zYi rfl rfl rfl HI.o ?_ ?_)
     ·intro hp
      have hdn:done≠[]:=fun e=>HNE.o (by subst e;simpa using hp)
      have HR:Hi (done.mergeSort leI=qVw d r1.2):=lH (by
       have hk:qHu d r1.2:=fun x hx=>by
        rw [<- HAS.o] at hx ⊢
        exact HS.o.nm.ok x hx
       exact uses_eq hk (fun x=>by rw [<- HAS.o];exact HKS.o x) HI.o.nodupK hp)
      have cSo:=lH (qW2 HO.o hdn (by omega))
      have x3:=HQ.o.cell 3
      simp only [Ze,Zd] at x3
      clear hp hdn
      go_wp2_with (go_at_call 63;(with_reducible refine cSo.o.mono ?_);rintro e1 w22 ⟨rfl,o22,g22⟩;have HO22:=lH o22;have HG22:=lH g22;have hQ2:=HQ.o.of (g22.block q HQ.o.lt (fun e=>by have:=HOB.o q e.symm;omega));have hZ2:=HZ.o.of (g22.block W.heap.size HZ.o.lt (fun e=>by have:=HOB.o _ e.symm;have:=HU21.o;omega));have y0:=hQ2.cell 0;have y1:=hQ2.cell 1;have y2:=hQ2.cell 2;have y3:=hQ2.cell 3;simp only [Ze,Zd] at y0 y1 y2 y3;have k0:=hZ2.cell 0;have k1:=hZ2.cell 1;have k2:=hZ2.cell 2;have k3:=hZ2.cell 3;simp only [Ze,Zd] at k0 k1 k2 k3;have ff:=fun j=>hZ2.frozen j;have HZ2:=lH hZ2;clear o22 g22 hQ2 hZ2)
      have hW4:=(((HZ2.o.set 0 (.int .i64 (p:Int))).set 1 (.string ⟨r0.1.toArray⟩)).set 2 (.string ⟨r1.1.toArray⟩)).set 3 (.slice ua done.length uc)
      have hB4:Bel W ((((w22.setCell ⟨W.heap.size,0,none⟩ (.int .i64 (p:Int))).setCell ⟨W.heap.size,1,none⟩ (.string ⟨r0.1.toArray⟩)).setCell ⟨W.heap.size,2,none⟩ (.string ⟨r1.1.toArray⟩)).setCell ⟨W.heap.size,3,none⟩ (.slice ua done.length uc)):=by
       have h0:Bel W w22:=Below.grown HB.o HG22.o HB.o.size (fun k hk=>by have:=(HOB.o k hk).1;have:=HU21.o;omega)
       exact Bel.setCell (Bel.setCell (Bel.setCell (Bel.setCell h0 _ 0 _ (Zb _)) _ 1 _ (Zb _)) _ 2 _ (Zb _)) _ 3 _ (Zb _)
      have hO4:qQb 1 qQf w21.heap.size 3 ((((w22.setCell ⟨W.heap.size,0,none⟩ (.int .i64 (p:Int))).setCell ⟨W.heap.size,1,none⟩ (.string ⟨r0.1.toArray⟩)).setCell ⟨W.heap.size,2,none⟩ (.string ⟨r1.1.toArray⟩)).setCell ⟨W.heap.size,3,none⟩ (.slice ua done.length uc)) (.slice ua done.length uc) (done.mergeSort leI):=HO22.o.agree (fun b hb=>by
       have h1:=(HO22.o.lt b hb).1
       have h2:=HU21.o
       have hne:b≠W.heap.size:=by omega
       rw [Below.heap_setCell _ _ _ b hne,Below.heap_setCell _ _ _ b hne,Below.heap_setCell _ _ _ b hne,Below.heap_setCell _ _ _ b hne]) (fun _ _ _ h=>h)
      have j0:=hW4.cell 0
      have j1:=hW4.cell 1
      have j2:=hW4.cell 2
      have j3:=hW4.cell 3
      simp only [Zg,Zf,Ze,Zd] at j0 j1 j2 j3
      clear hW4 y0 y1 y2 y3 k0 k1 k2 k3 ff x3
      generalize ((((w22.setCell ⟨W.heap.size,0,none⟩ (.int .i64 (p:Int))).setCell ⟨W.heap.size,1,none⟩ (.string ⟨r0.1.toArray⟩)).setCell ⟨W.heap.size,2,none⟩ (.string ⟨r1.1.toArray⟩)).setCell ⟨W.heap.size,3,none⟩ (.slice ua done.length uc))=w4 at *
      rw [HR.o] at hO4
      refine bodyPost_ret (v:=.agg #[.int .i64 (p:Int),.string ⟨r0.1.toArray⟩,.string ⟨r1.1.toArray⟩,.slice ua done.length uc]) (by simp [results,Tryz.results19,go_sem,j0,j1,j2,j3]) rfl ?_
      exact ⟨hB4,_,rfl,_,rfl,hO4.base_le (by have:=HU21.o;omega)⟩
     ·intro k w22 hk hkd hI2 g22 z22 hen
      have HI2:=lH hI2
      have HG22:=lH g22
      have HOk:=lH (HLN.o (done++[k]) hI2.nodup hI2.sub)
      have hQ2:=HQ.o.of (g22.block q HQ.o.lt (fun e=>by have:=Option.some.inj e;omega))
      have hO2:qQb 1 qQf w21.heap.size 3 w22 (.slice ua done.length uc) done:=HO.o.agree (fun b hb=>g22.block b (HOB.o b hb).2 (fun e=>by have:=Option.some.inj e;have:=(HOB.o b hb).1;omega)) (fun _ _ _ h=>h)
      have hZ2:=HZ.o.of (g22.block W.heap.size HZ.o.lt (fun e=>by have:=Option.some.inj e;have:=HU21.o;omega))
      have hB2:Bel W w22:=Below.grown HB.o g22 HB.o.size (fun k hk=>by cases hk;omega)
      have HQ2:=lH hQ2
      have HO2:=lH hO2
      have HZ2:=lH hZ2
      have HB2:=lH hB2
      have hs22:w21.heap.size<=w22.heap.size:=Za HSZ.o g22.size
      have x3:=hQ2.cell 3
      simp only [Ze,Zd] at x3
      have HF3:Hi (∀ w',w22.grownBy w' (Value.slice ua done.length uc).ownBlock->Blk w' q [.int .i64 (p:Int),.string ⟨r0.1.toArray⟩,.string ⟨r1.1.toArray⟩,.slice ua done.length uc] 31):=lH (fun w' hg=>HQ2.o.of (hg.block q HQ2.o.lt (fun e=>by have:=HOB.o q e.symm;omega)))
      clear g22 hI2 hQ2 hO2 hZ2 hB2 z22 hk hkd
      go_wp2_with (at_builtin;go_must (refine qKx rfl _ _ _ rfl qJm (by decide) qQc qKy rfl HO2.o rfl ?hg k ⟨rfl,rfl⟩ ?hb1 ?hb2 ?hb3 ?_);(case hg=>simp);(case hb1=>omega);(case hb2=>omega);(case hb3=>omega);intro v23 w23 o23 g23;obtain ⟨va3,vc3,e3,l1,l2⟩:=Rf o23.read;rw [show (done++[k]).length=done.length+1 by simp] at e3;subst e3;have HO3:=lH o23;have HG3:=lH g23;have HQ3:=lH (HF3.o _ g23);have y3:=HQ3.o.cell 3;have f3:=HQ3.o.frozen 3;simp only [Ze,Zd] at y3;clear o23 g23)
      go_roundw
      case rel=>
       have hlt:=HI2.o.lt
       have hst:∀ b,b≠q->(w23.setCell ⟨q,3,none⟩ (.slice va3 (done.length+1) vc3)).heap[b]?=w23.heap[b]?:=fun b hb=>Below.heap_setCell _ _ _ b hb
       have hrow:∀ b,b<w20.heap.size+1->b<w22.heap.size->w23.heap[b]?=w22.heap[b]?:=fun b hb hb2=>HG3.o.block b hb2 (fun e=>by have:=(HOB.o b e.symm).1;omega)
       have hO4:qQb 1 qQf w21.heap.size 3 (w23.setCell ⟨q,3,none⟩ (.slice va3 (done.length+1) vc3)) (.slice va3 (done.length+1) vc3) (done++[k]):=HO3.o.agree (fun b hb=>hst b (fun e=>by have:=(HO3.o.lt b hb).1;omega)) (fun _ _ _ h=>h)
       refine ⟨done++[k],.slice va3 (done.length+1) vc3,HI2.o.agree ?_ ?_,HQ3.o.set 3 _,hO4,?_,?_,?_⟩
       ·rw [hst u (by omega),hrow u (by have:=HU21.o;omega) hlt.1]
       ·rw [hst _ (by omega),hrow _ (by omega) hlt.2.1]
       ·exact Bel.setCell (Below.grown HB2.o HG3.o HB2.o.size (fun k hk=>by have:=(HOB.o k hk).1;have:=HU21.o;omega)) q 3 _ (by omega)
       ·have:=HG3.o.size
        simp only [World.size_setCell]
        omega
       ·exact (HZ2.o.of (hrow _ (by have:=HU21.o;omega) HZ2.o.lt)).other _ _ (by show W.heap.size≠q;omega)
      case measure=>
       have hc:=zQw (w:=w23.setCell ⟨q,3,none⟩ (.slice va3 (done.length+1) vc3)) ((HQ3.o.set 3 _).cell 3)
       have hc2:=HCL.o
       have hlk:=HOk.o
       simp only [Zj,Zm,List.length_nil] at hlk
       rw [hc,hc2]
       omega
end Go.Proofs.YtklbmkaomojciaaGreat
