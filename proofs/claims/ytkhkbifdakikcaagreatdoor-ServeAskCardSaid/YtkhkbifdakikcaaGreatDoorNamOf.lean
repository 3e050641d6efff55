/- Elements' names, walked: the memo of a node. -/
import Derived.Test.YtkhkbifdakikcaaGreatDoorNamWalk
import Derived.Test.YtkhkbifdakikcaaGreatDoorIntSort
set_option maxRecDepth 100000
set_option maxHeartbeats 4000000
namespace Go.Proofs.YtkhkbifdakikcaaGreatDoor
open Go.RowKit
variable {done ks:List Int} {b r:Nat} {e:TypeId}
theorem zH7 {d:Dc} {x:Int} (h:isM d x false=true):∃ k:Nat,k<d.length/\x=(k:Int):=by
 obtain ⟨k,H,e,-⟩:=qQy.1 h;exact ⟨k,H,e⟩
theorem zF0 (d:Dc) (s:St):(qWm d s).Pairwise (·<=·)/\(qWm d s).Nodup:=by
 unfold qWm;have H:((List.range d.length).map (fun k:Nat=>(k:Int))).Pairwise (·<·):=by
  rw [List.pairwise_map];exact (List.pairwise_lt_range).imp (fun h=>by omega)
 exact ⟨(H.imp (fun h=>Int.le_of_lt h)).filter _,List.Pairwise.imp (fun h=>by omega) (H.filter _)⟩
theorem uses_eq {d:Dc} {s:St} (a:qH6 d s) (c:∀ x,s.asked x=ks.contains x) (i:ks.Nodup) (p:done.Perm ks):done.mergeSort leI=qWm d s:=by
 obtain ⟨R,j⟩:=zF0 d s;refine sort_eq (p.trans ?_) R;refine (List.perm_ext_iff_of_nodup i j).2 (fun x=>?_);unfold qWm;rw [List.mem_filter,c];constructor
 ·intro H;have f:s.asked x=true:=by rw [c];simpa using H
  obtain ⟨k,a,rfl⟩:=zH7 (a x f).1;exact ⟨List.mem_map.2 ⟨k,List.mem_range.2 a,rfl⟩,by simpa using H⟩
 ·rintro ⟨_,H⟩;simpa using H
theorem nost_ok (d:Dc):qH6 d noSt:=fun x H=>by simp [noSt] at H
theorem qD5 (w:World) (a:Addr) (v:Value):w.grownBy (w.setCell a v) (some a.block):=⟨by simp [World.setCell],by simp [World.setCell],by simp [World.setCell],by simp,fun b _ H=>Below.heap_setCell w a v b (fun e=>H (by rw [e]))⟩
theorem NmM.else {m g h u:Nat} {dv cv:Value} {X:List Value} {d:Dc} {C:List Clm} {w w':World} {s:St} (k:NmM m g h u dv cv X e d C w s) {q:Nat} (G:w.grownBy w' (some q)) (p:m<=q/\q≠g/\q≠h/\q≠u):NmM m g h u dv cv X e d C w' s:=by
 obtain ⟨l,j,o,t⟩:=k.lts;have H:∀ b,b≠q->some b≠some q:=fun b f e=>f (Option.some.inj e);have i:Below m w w':=⟨G.os,G.tape,G.output,G.size,fun b f=>G.block b (by omega) (H b (by omega))⟩;refine ⟨k.doc.later i (Zb _),k.clm.later qZj i (Zb _),k.blk.of (G.block g l (H g (by omega))),?_,?_,k.ne,k.lo⟩
 ·obtain ⟨ks,a,c⟩:=k.had;exact ⟨ks,a.agree (G.block h j (H h (by omega))),c⟩
 ·obtain ⟨ks,a,c⟩:=k.use;exact ⟨ks,a.agree (G.block u o (H u (by omega))),c⟩
theorem NmAt.else {m g h u:Nat} {dv cv:Value} {X:List Value} {d:Dc} {C:List Clm} {w w':World} {s:St} (k:NmAt m g h u dv cv X e d C w s) {q:Nat} (G:w.grownBy w' (some q)) (H:m<=q/\q≠g/\q≠h/\q≠u):NmAt m g h u dv cv X e d C w' s:=⟨k.mem.else G H,k.ok⟩
theorem NmM.new {m:Nat} {dv cv:Value} {d:Dc} {C:List Clm} {w:World} (hd:qZh m w dv d) (c:qQa 2 qYr (·<m) w cv C) (hm:m<=w.heap.size) (X:List Value) (e:TypeId) :
 NmM m (w.heap.size+2) w.heap.size (w.heap.size+1) dv cv X e d C (((w.alloc (.map #[] 0)).alloc (.map #[] 0)).alloc (.cells (dv::cv::.map (some w.heap.size)::.map (some (w.heap.size+1))::X).toArray e)) noSt:=by
 have H:Bel w (((w.alloc (.map #[] 0)).alloc (.map #[] 0)).alloc (.cells (dv::cv::.map (some w.heap.size)::.map (some (w.heap.size+1))::X).toArray e)):=(((Br w).alloc _).alloc _).alloc _;have a:(w.alloc (.map #[] 0)).heap.size=w.heap.size+1:=by simp
 have S:((w.alloc (.map #[] 0)).alloc (.map #[] 0)).heap.size=w.heap.size+2:=by simp
 refine ⟨hd.later H hm,c.later qZj H hm,Blk.new _ _ S.symm _ _,⟨[],?_,fun _=>rfl⟩,⟨[],?_,fun _=>rfl⟩,by omega,by omega⟩
 ·refine (qJ3.made w).agree ?_;rw [heap_alloc_old _ _ (by rw [S];omega),heap_alloc_old _ _ (by rw [a];omega)]
 ·have:=qJ3.made (w.alloc (.map #[] 0));rw [a] at this;refine this.agree ?_;rw [heap_alloc_old _ _ (by rw [S];omega)]
def zYk (w:World) (q j:Nat):Nat:=match w.cell? ⟨q,j,none⟩ with | some (.slice _ n _)=>n | _=>0
theorem zZd {w:World} {q j n:Nat} {a:Option Addr} {c:Nat} (h:w.cell? ⟨q,j,none⟩=some (.slice a n c)):zYk w q j=n:=by unfold zYk;rw [h]
structure OfSt (m:Nat) (W:World) (q g h u:Nat) (dv cv:Value) (X:List Value) (d:Dc) (C:List Clm) (n:Int) (e6 e7 e8:TypeId) (w:World) (s:St) (name about:Txt):Prop where
 nm:NmAt m g h u dv cv X e8 d C w s
 out:Blk w q [.int .i64 n,.string ⟨name.toArray⟩,.string ⟨about.toArray⟩,.slice none 0 0] e7
 res:Blk w W.heap.size [.int .i64 0,.string ⟨#[]⟩,.string ⟨#[]⟩,.slice none 0 0] e6
 bel:Bel W w
 ne:W.heap.size<q/\q≠g/\q≠h/\q≠u/\W.heap.size<g/\W.heap.size<h/\W.heap.size<u/\m<=W.heap.size
section
variable {m:Nat} {W:World} {q g h u:Nat} {dv cv:Value} {X:List Value} {d:Dc} {C:List Clm} {n:Int} {e6 e7 e8:TypeId} {w w':World} {s s':St} {name about:Txt}
theorem OfSt.call (k:OfSt m W q g h u dv cv X d C n e6 e7 e8 w s name about) (x:Nmd h u w w') (y:NmAt m g h u dv cv X e8 d C w' s'):OfSt m W q g h u dv cv X d C n e6 e7 e8 w' s' name about:=by
 have H:=k.res;obtain ⟨c,f,N,a,i,j,l,o⟩:=k.ne;exact ⟨y,k.out.of (x.block q k.out.lt N a),H.of (x.block _ H.lt (by omega) (by omega)),Below.trans k.bel (x.below (by omega) (by omega) k.bel.size),k.ne⟩
theorem OfSt.bl (k:OfSt m W q g h u dv cv X d C n e6 e7 e8 w s name about) (x:Bel w w'):OfSt m W q g h u dv cv X d C n e6 e7 e8 w' s name about:=k.call (Nmd.bel x) ⟨k.nm.mem.bel x,k.nm.ok⟩
theorem OfSt.setName (k:OfSt m W q g h u dv cv X d C n e6 e7 e8 w s name about) (x:Txt):OfSt m W q g h u dv cv X d C n e6 e7 e8 (w.setCell ⟨q,1,none⟩ (.string ⟨x.toArray⟩)) s x about:=by
 have H:=k.res;obtain ⟨N,a,c,f,i,j,l,o⟩:=k.ne;exact ⟨k.nm.else (qD5 w ⟨q,1,none⟩ _) (show m<=q/\q≠g/\q≠h/\q≠u by omega),k.out.set 1 _,H.other _ _ (by show W.heap.size≠q;omega),k.bel.setCell q 1 _ (by omega),k.ne⟩
theorem OfSt.setAbout (k:OfSt m W q g h u dv cv X d C n e6 e7 e8 w s name about) (x:Txt):OfSt m W q g h u dv cv X d C n e6 e7 e8 (w.setCell ⟨q,2,none⟩ (.string ⟨x.toArray⟩)) s name x:=by
 have H:=k.res;obtain ⟨N,a,c,f,i,j,l,o⟩:=k.ne;exact ⟨k.nm.else (qD5 w ⟨q,2,none⟩ _) (show m<=q/\q≠g/\q≠h/\q≠u by omega),k.out.set 2 _,H.other _ _ (by show W.heap.size≠q;omega),k.bel.setCell q 2 _ (by omega),k.ne⟩
theorem OfSt.cells (k:OfSt m W q g h u dv cv X d C n e6 e7 e8 w s name about):w.cell? ⟨q,0,none⟩=some (.int .i64 n)/\w.cell? ⟨q,1,none⟩=some (.string ⟨name.toArray⟩)/\w.cell? ⟨q,2,none⟩=some (.string ⟨about.toArray⟩)/\w.cell? ⟨q,3,none⟩=some (.slice none 0 0)/\(∀ j,w.frozen? ⟨q,j,none⟩=false)/\∀ j,w.frozen? ⟨g,j,none⟩=false:=
 ⟨k.out.cell 0,k.out.cell 1,k.out.cell 2,k.out.cell 3,fun j=>k.out.frozen j,fun j=>k.nm.mem.blk.frozen j⟩
theorem OfSt.rehad (k:OfSt m W q g h u dv cv X d C n e6 e7 e8 w s name about) (H:Nat) {a:World} (B:Bel w a) (z:w.heap.size<=H) (j:qJ3 a H [n]) :
 OfSt m W q g H u dv cv X d C n e6 e7 e8 (a.setCell ⟨g,2,none⟩ (.map (some H))) { had:=fun x=>x==n,asked:=s.asked } name about:=by
 have E:=k.res;obtain ⟨Q,R,S,T,U,V,Y,Z⟩:=k.ne;have K:=k.bl B;obtain ⟨F,J,N,O⟩:=k.nm.mem.lts;obtain ⟨I,M,t,P⟩:=K.nm.mem.lts;have D:=k.nm.mem.ne;have y:=k.nm.mem.nes;have A:=k.out.lt;have v:=k.bel.size;have G:=qD5 a ⟨g,2,none⟩ (.map (some H));have c:∀ b,b≠g->some b≠some g:=fun b f e=>f (Option.some.inj e);have i:Below m a (a.setCell ⟨g,2,none⟩ (.map (some H))):=⟨G.os,G.tape,G.output,G.size,fun b f=>G.block b (by omega) (c b (by have:=k.nm.mem.lo.1;omega))⟩;have p:=K.res;refine ⟨⟨⟨K.nm.mem.doc.later i (Zb _),K.nm.mem.clm.later qZj i (Zb _),K.nm.mem.blk.set 2 _,⟨[n],j.agree (G.block H j.lt (c H (by omega))),fun x=>?_⟩,?_,by omega,by have:=k.nm.mem.lo;omega⟩,k.nm.ok⟩,K.out.other _ _ (by show q≠g;omega),p.other _ _ (by show W.heap.size≠g;omega),K.bel.setCell g 2 _ (by omega),by omega⟩
 ·show (x==n)=[n].contains x;rw [Bool.eq_iff_iff];simp
 ·obtain ⟨ks,l,o⟩:=K.nm.mem.use;exact ⟨ks,l.agree (G.block u t (c u (by omega))),o⟩
end
theorem zWw {w w':World} (g:(w.alloc (.map #[] 0)).grownBy w' (some w.heap.size)):Bel w w':=by
 refine ⟨g.os,g.tape,g.output,Za (by simp) g.size,fun k H=>?_⟩;exact (g.block k (by simp;omega) (fun e=>by have:=Option.some.inj e;omega)).trans (Below.heap_alloc w _ k H)
theorem zYr (d:Dc) (C:List Clm) (n:Int) (r:Txt×St) :
 qV0 d C n r=if (!(nd d n).tag.isEmpty&&!r.1.isEmpty)=true then (if ((qYv d C n r.2).1.isEmpty&&!(sq d n titleT==r.1))=true then (sq d n titleT,(qYv d C n r.2).2) else qYv d C n r.2) else ([],r.2):=by
 unfold qV0;have E:((nd d n).tag≠[]/\r.1≠[])=((!(nd d n).tag.isEmpty&&!r.1.isEmpty)=true):=by cases (nd d n).tag <;> cases r.1 <;> simp
 have a:((qYv d C n r.2).1=[]/\sq d n titleT≠r.1)=(((qYv d C n r.2).1.isEmpty&&!(sq d n titleT==r.1))=true):=by cases (qYv d C n r.2).1 <;> simp
 simp only [E,a];split
 ·split
  ·rfl
  ·rfl
 ·rfl
theorem zW9 {d:Dc} {C:List Clm} (G:Good d) {n:Int} (c:isM d n false=true):(qV0 d C n (qXg d C n)).2.asked n=true:=by
 have a:(markM d n noSt).asked n=true:=by
  simp only [markM,Bool.or_eq_true,List.contains_iff_mem,zJy G];exact .inr (.here (qQh.1 c).1)
 have H:(qXg d C n).2.asked n=true:=by
  unfold qXg;split
  ·exact qY1 _ _ _ _ _ _ a
  ·exact a
 unfold qV0;split
 ·exact qVv (fun k s x h=>qY1 _ _ _ _ _ _ h) _ _ _ H
 ·exact H
theorem Bel.of_none {a b:World} (g:a.grownBy b none):Bel a b:=⟨g.os,g.tape,g.output,g.size,fun k H=>g.block k H (by simp)⟩
theorem qKs.nodup {w:World} (h:qKs w b r ks done):done.Nodup:=by
 obtain ⟨_,_,_,_,_,_,_,_,_,_,_,_,_,H,_,_⟩:=h;exact H
theorem qKs.sub {w:World} (h:qKs w b r ks done):∀ k∈done,k∈ks:=by
 obtain ⟨_,_,_,_,_,_,_,_,_,_,_,_,_,_,_,H⟩:=h;exact H
theorem qKs.nodupK {w:World} (h:qKs w b r ks done):ks.Nodup:=by
 obtain ⟨_,_,_,_,_,_,_,H,_⟩:=h;exact H
theorem zYo (d:Dc) (C:List Clm) (n:Int):qXg d C n=if ((nd d n).tag.isEmpty||(kOf (qQd d n)).named)=true then qQs d C 100 n false false (markM d n noSt) else ([],markM d n noSt):=by
 unfold qXg;have E:((nd d n).tag=[]∨(kOf (qQd d n)).named=true)=(((nd d n).tag.isEmpty||(kOf (qQd d n)).named)=true):=by cases (nd d n).tag <;> simp
 simp only [E]
theorem zYf (A c f i j a k:Value) (w:World):(Instr.field 57 (.agg #[A,c,f,i,j,a,k]) 5).run Tryz.prog w=.ok a w:=by kernel_rfl
theorem qW9 (m:Nat) (dv cv:Value) (d:Dc) (C:List Clm) (n:Int) (W:World) (hv:qZh m W dv d) (hc:qQa 2 qYr (·<m) W cv C) (hm:m<=W.heap.size) (P:Good d) (hC:∀ c∈C,isM d c.kid false=true) (bu:C.length<=1000) :
 Calls Tryz.prog 16 #[dv,cv,.int .i64 n] W (Rn W fun w' y=>∃ uv,y=.agg #[.int .i64 n,.string ⟨(qJn d C n).name.toArray⟩,.string ⟨(qJn d C n).about.toArray⟩,uv]/\qQb 1 qQf W.heap.size 3 w' uv (qJn d C n).uses):=by
 have cI:Hi (∀ W',Bel W W'->Calls Tryz.prog 13 #[dv,.int .i64 n,.bool false] W' (Rv (.bool (isM d n false)) W')):=lH (fun W' hW=>qQ5 m dv d n false W' (hv.later hW hm));have de:=@run_makeMap Tryz.prog;cases hi:isM d n false with
 | false=>
   rw [hi] at cI;have hM:qJn d C n={}:=(by unfold qJn;rw [hi];rfl);rw [hM];go_enter Tryz.func16,Tryz.ntmps16
   go_wp2_with (go_at_call 13;(with_reducible refine (cI.o _ (((Br W).alloc _).alloc _)).mono ?_);rintro E w1 ⟨rfl,rfl⟩)
   refine bodyPost_ret (v:=.agg #[.int .i64 n,.string ⟨#[]⟩,.string ⟨#[]⟩,.slice none 0 0]) (by simp [results,Tryz.results16,go_sem]) rfl ?_;exact ⟨((Br W).alloc _).alloc _,_,rfl,_,rfl,qQb.nil _ _ _⟩
 | true=>
   rw [hi] at cI;have hM:qJn d C n=⟨(qXg d C n).1,(qV0 d C n (qXg d C n)).1,qWm d (qV0 d C n (qXg d C n)).2⟩:=(by unfold qJn;rw [hi];rfl);rw [hM];clear hM;obtain ⟨p,hp,rfl,-⟩:=qQy.1 hi;obtain ⟨b,o,f,av,kv,sv,rfl,v1,v2,da,hN⟩:=hv.node p hp;obtain ⟨ca,cc,rfl,d8,d9⟩:=Rf hc;have d5:=zZs qYx;have a9:=zYo d C (p:Int);obtain ⟨R,v⟩:∃ r,r=qXg d C (p:Int):=⟨_,rfl⟩;have au:=zYr d C (p:Int) R;rw [<- v] at a9 ⊢;have ar:=zW9 (C:=C) P hi;rw [<- v] at ar;obtain ⟨a,i⟩:∃ r,r=qV0 d C (p:Int) R:=⟨_,rfl⟩;rw [<- i] at ar;have ch:=lH ar;clear ar;rw [<- i] at au ⊢;rw [qQ2 hp] at a9 au;have c6:qZz d (markM d (p:Int) noSt).had<=100:=Za (qWt d _) (by have:=P.len;omega);have an:Hi (∀ g h u w',NmAt m g h u (.slice (some ⟨b,o,none⟩) d.length f) (.slice ca C.length cc) [] 91 d C w' noSt->Calls Tryz.prog 34 #[.pointer (some ⟨g,0,none⟩),.int .i64 (p:Int)] w' (Rm w' h u (.tuple #[]) (fun ae=>NmAt m g h u (.slice (some ⟨b,o,none⟩) d.length f) (.slice ca C.length cc) [] 91 d C ae (markM d (p:Int) noSt)))):=lH (fun g h u w' k=>(qWi P k.mem k.ok hi).mono (fun _ _ hh=>⟨hh.1,hh.2.1,⟨hh.2.2,k.ok.mark P hi⟩⟩));have al:Hi (∀ g h u w',NmAt m g h u (.slice (some ⟨b,o,none⟩) d.length f) (.slice ca C.length cc) [] 91 d C w' (markM d (p:Int) noSt)->Calls Tryz.prog 35 #[.pointer (some ⟨g,0,none⟩),.int .i64 (p:Int),.bool false,.bool false] w' (Rm w' h u (.string ⟨(qQs d C 100 (p:Int) false false (markM d (p:Int) noSt)).1.toArray⟩) (fun ae=>NmAt m g h u (.slice (some ⟨b,o,none⟩) d.length f) (.slice ca C.length cc) [] 91 d C ae (qQs d C 100 (p:Int) false false (markM d (p:Int) noSt)).2))):=lH (fun g h u w' k=>qVs P hC bu 100 (p:Int) false false _ w' k hi rfl c6);have bp:Hi (∀ g h u w',NmAt m g h u (.slice (some ⟨b,o,none⟩) d.length f) (.slice ca C.length cc) [] 91 d C w' { had:=fun x=>x==(p:Int),asked:=R.2.asked }->Calls Tryz.prog 36 #[.pointer (some ⟨g,0,none⟩),.int .i64 (p:Int),.string ⟨#[97,114,105,97,45,100,101,115,99,114,105,98,101,100,98,121]⟩] w' (Rm w' h u (.string ⟨(qYv d C (p:Int) R.2).1.toArray⟩) (fun ae=>NmAt m g h u (.slice (some ⟨b,o,none⟩) d.length f) (.slice ca C.length cc) [] 91 d C ae (qYv d C (p:Int) R.2).2))):=lH (fun g h u w' k=>qX9 P hC (F:=100) (fun x li s' W' k' hx d2 cy=>qVs P hC bu 100 x true li s' W' k' hx d2 cy) k (Za (qWt d _) (by have:=P.len;omega)) (p:Int) descT);have cq:Hi (∀ g h u w' s,NmAt m g h u (.slice (some ⟨b,o,none⟩) d.length f) (.slice ca C.length cc) [] 91 d C w' s->Calls Tryz.prog 37 #[.pointer (some ⟨g,0,none⟩),.int .i64 (p:Int),.string ⟨#[116,105,116,108,101]⟩] w' (Rb (.string ⟨(sq d (p:Int) titleT).toArray⟩) w')):=lH (fun g h u w' s k=>qJj P k.mem (p:Int) titleT);have am:Hi (∀ w',Bel W w'->Calls Tryz.prog 14 #[.slice (some ⟨b,o,none⟩) d.length f,.int .i64 (p:Int)] w' (Rb (.int .i64 (qQd d (p:Int))) w')):=lH (fun w' hW=>qKa m _ d _ w' (hv.later hW hm) (Za hm hW.size) P);have a7:=lH (qKt (qQd d (p:Int)));have G:Hi (∀ w',Bel W w'->w'.cell? ⟨b,o+p*9+1,none⟩=some (.string ⟨d[p].tag.toArray⟩)):=lH (fun w' hW=>zVs (hv.later hW hm) hp);have bi:Hi (NmAt m (W.heap.size+1+1+1+1) (W.heap.size+1+1) (W.heap.size+1+1+1) (.slice (some ⟨b,o,none⟩) d.length f) (.slice ca C.length cc) [] 91 d C (((((W.alloc (.cells #[.int .i64 0,.string ⟨#[]⟩,.string ⟨#[]⟩,.slice none 0 0] 60)).alloc (.cells #[.int .i64 (p:Int),.string ⟨#[]⟩,.string ⟨#[]⟩,.slice none 0 0] 60)).alloc (.map #[] 0)).alloc (.map #[] 0)).alloc (.cells #[.slice (some ⟨b,o,none⟩) d.length f,.slice ca C.length cc,.map (some (W.heap.size+1+1)),.map (some (W.heap.size+1+1+1))] 91)) noSt):=by
    have hb2:Bel W ((W.alloc (.cells #[.int .i64 0,.string ⟨#[]⟩,.string ⟨#[]⟩,.slice none 0 0] 60)).alloc (.cells #[.int .i64 (p:Int),.string ⟨#[]⟩,.string ⟨#[]⟩,.slice none 0 0] 60)):=((Br W).alloc _).alloc _;have d3:((W.alloc (.cells #[.int .i64 0,.string ⟨#[]⟩,.string ⟨#[]⟩,.slice none 0 0] 60)).alloc (.cells #[.int .i64 (p:Int),.string ⟨#[]⟩,.string ⟨#[]⟩,.slice none 0 0] 60)).heap.size=W.heap.size+1+1:=(by simp);have:=NmM.new (hv.later hb2 hm) (hc.later qZj hb2 hm) (Za hm hb2.size) [] 91;rw [d3] at this;exact lH ⟨this,nost_ok d⟩
   have bb:Hi (Bel W (((((W.alloc (.cells #[.int .i64 0,.string ⟨#[]⟩,.string ⟨#[]⟩,.slice none 0 0] 60)).alloc (.cells #[.int .i64 (p:Int),.string ⟨#[]⟩,.string ⟨#[]⟩,.slice none 0 0] 60)).alloc (.map #[] 0)).alloc (.map #[] 0)).alloc (.cells #[.slice (some ⟨b,o,none⟩) d.length f,.slice ca C.length cc,.map (some (W.heap.size+1+1)),.map (some (W.heap.size+1+1+1))] 91))):=lH (((((Br W).alloc _).alloc _).alloc _).alloc _ |>.alloc _);have bn:Hi (Blk (((((W.alloc (.cells #[.int .i64 0,.string ⟨#[]⟩,.string ⟨#[]⟩,.slice none 0 0] 60)).alloc (.cells #[.int .i64 (p:Int),.string ⟨#[]⟩,.string ⟨#[]⟩,.slice none 0 0] 60)).alloc (.map #[] 0)).alloc (.map #[] 0)).alloc (.cells #[.slice (some ⟨b,o,none⟩) d.length f,.slice ca C.length cc,.map (some (W.heap.size+1+1)),.map (some (W.heap.size+1+1+1))] 91)) (W.heap.size+1) [.int .i64 (p:Int),.string ⟨#[]⟩,.string ⟨#[]⟩,.slice none 0 0] 60):=lH ((Blk.new' _ _ (by simp) _ _).bel ((((Br _).alloc _).alloc _).alloc _));have bm:Hi (Blk (((((W.alloc (.cells #[.int .i64 0,.string ⟨#[]⟩,.string ⟨#[]⟩,.slice none 0 0] 60)).alloc (.cells #[.int .i64 (p:Int),.string ⟨#[]⟩,.string ⟨#[]⟩,.slice none 0 0] 60)).alloc (.map #[] 0)).alloc (.map #[] 0)).alloc (.cells #[.slice (some ⟨b,o,none⟩) d.length f,.slice ca C.length cc,.map (some (W.heap.size+1+1)),.map (some (W.heap.size+1+1+1))] 91)) W.heap.size [.int .i64 0,.string ⟨#[]⟩,.string ⟨#[]⟩,.slice none 0 0] 60):=lH ((Blk.new' W _ rfl _ _).bel (((((Br _).alloc _).alloc _).alloc _).alloc _));have dc:=zYf;clear hN v i c6;generalize d0:kOf (qQd d (p:Int))=kk at *
   clear d0;obtain ⟨dk,dh,di,dj,dg,aw,dl⟩:=kk;generalize qQd d (p:Int)=rl at *
   generalize sq d (p:Int) titleT=tt at *
   generalize ct:d[p].tag=tg at *
   clear ct;simp only at a9 a7;have ah:=lH a9;have ck:=lH P.len;have ai:=lH au;have HM:=lH hm;clear a9 au;go_enter Tryz.func16,Tryz.ntmps16
   go_upto_region 5 with (go_at_call 13;(with_reducible refine (cI.o _ (((Br W).alloc _).alloc _)).mono ?_);rintro E w1 ⟨rfl,rfl⟩)
   refine qQt (E:=fun w'=>OfSt m W (W.heap.size+1) (W.heap.size+1+1+1+1) (W.heap.size+1+1) (W.heap.size+1+1+1) (.slice (some ⟨b,o,none⟩) d.length f) (.slice ca C.length cc) [] d C (p:Int) 60 60 91 w' noSt [] []) ⟨bi.o,bn.o,bm.o,bb.o,by have:=HM.o;omega⟩ ?_;clear bi bn bm bb;generalize W.heap.size+1+1+1+1=g;generalize W.heap.size+1+1+1=u;generalize W.heap.size+1+1=h;generalize W.heap.size+1=q;intro w5 aq;have H:=lH aq;have c0:=aq.nm.mem.c0;have c3:=aq.nm.mem.c3;clear aq;have cw:tg.isEmpty=true∨(tg.isEmpty=false/\aw=false)∨(tg.isEmpty=false/\aw=true/\R.1.isEmpty=true)∨(tg.isEmpty=false/\aw=true/\R.1.isEmpty=false):=by
    cases tg.isEmpty <;> cases aw <;> cases R.1.isEmpty <;> simp
   refine cw.elim ?ca (fun hh=>hh.elim ?cb (fun hh=>hh.elim ?cc ?cd));case' ca=>
    intro Q;have v:R=qQs d C 100 (p:Int) false false (markM d (p:Int) noSt):=(by rw [ah.o,Q];rfl);have i:a=([],R.2):=(by rw [ai.o,Q];rfl);have a4:=lH v;have j:=lH i;clear v i;go_upto_region 8 with (first
 | (go_at_call 34;(with_reducible refine (an.o _ _ _ _ H.o.nm).mono ?_);rintro E w6 ⟨rfl,O,S⟩;have H:=lH (H.o.call O S);have T:=G.o _ H.o.bel;clear O S)
 | (go_at_call 14;(with_reducible refine (am.o _ H.o.bel).mono ?_);rintro E w7 ⟨rfl,B⟩;have H:=lH (H.o.bl B);clear B)
 | (go_at_call 15;(with_reducible refine (a7.o _).mono ?_);rintro E w8 ⟨rfl,N⟩;have H:=lH (H.o.bl N);have T:=G.o _ H.o.bel;clear N)
 | (go_at_call 35;(with_reducible refine (al.o _ _ _ _ H.o.nm).mono ?_);rintro E w9 ⟨rfl,D,K⟩;have H:=lH (H.o.call D K);obtain ⟨x0,M,x2,V,F,t⟩:=H.o.cells;have f1:=F 1;have f2:=F 2;have Y:=t 2;clear F t;clear D K))
    refine qQt (E:=fun w'=>OfSt m W q g h u (.slice (some ⟨b,o,none⟩) d.length f) (.slice ca C.length cc) [] d C (p:Int) 60 60 91 w' R.2 R.1 []) (by rw [a4.o];exact H.o.setName _) ?_
    intro a2 l
    have H:=lH l
    have T:=G.o _ l.bel
    have M:=l.cells.2.1
    clear l
    go_upto_region 14 with fail
    refine qQt (E:=fun w'=>∃ (J:Nat) (s:St),OfSt m W q g J u (.slice (some ⟨b,o,none⟩) d.length f) (.slice ca C.length cc) [] d C (p:Int) 60 60 91 w' s R.1 a.1/\s.asked=a.2.asked) ⟨h,R.2,by rw [j.o];exact H.o,by rw [j.o]⟩ ?_
   case' cb=>
    rintro ⟨Q,rfl⟩;have v:R=([],markM d (p:Int) noSt):=(by rw [ah.o,Q];rfl);have i:a=([],R.2):=(by rw [ai.o,Q,v];rfl);have a0:R.1=[]:=(by rw [v]);have a4:=lH v;have j:=lH i;have b0:=lH a0;clear v i a0;go_upto_region 8 with (first
 | (go_at_call 34;(with_reducible refine (an.o _ _ _ _ H.o.nm).mono ?_);rintro E w6 ⟨rfl,O,S⟩;have H:=lH (H.o.call O S);have T:=G.o _ H.o.bel;clear O S)
 | (go_at_call 14;(with_reducible refine (am.o _ H.o.bel).mono ?_);rintro E w7 ⟨rfl,B⟩;have H:=lH (H.o.bl B);clear B)
 | (go_at_call 15;(with_reducible refine (a7.o _).mono ?_);rintro E w8 ⟨rfl,N⟩;have H:=lH (H.o.bl N);have T:=G.o _ H.o.bel;clear N)
 | (go_at_call 35;(with_reducible refine (al.o _ _ _ _ H.o.nm).mono ?_);rintro E w9 ⟨rfl,D,K⟩;have H:=lH (H.o.call D K);obtain ⟨x0,M,x2,V,F,t⟩:=H.o.cells;have f1:=F 1;have f2:=F 2;have Y:=t 2;clear F t;clear D K))
    refine qQt (E:=fun w'=>OfSt m W q g h u (.slice (some ⟨b,o,none⟩) d.length f) (.slice ca C.length cc) [] d C (p:Int) 60 60 91 w' R.2 R.1 []) (by rw [a4.o];exact H.o) ?_
    intro a2 l
    have H:=lH l
    have T:=G.o _ l.bel
    have M:=l.cells.2.1
    clear l
    rw [b0.o] at M
    go_upto_region 14 with fail
    refine qQt (E:=fun w'=>∃ (J:Nat) (s:St),OfSt m W q g J u (.slice (some ⟨b,o,none⟩) d.length f) (.slice ca C.length cc) [] d C (p:Int) 60 60 91 w' s R.1 a.1/\s.asked=a.2.asked) ⟨h,R.2,by rw [j.o];exact H.o,by rw [j.o]⟩ ?_
   case' cc=>
    rintro ⟨Q,rfl,b4⟩;have v:R=qQs d C 100 (p:Int) false false (markM d (p:Int) noSt):=(by rw [ah.o,Q];rfl);have i:a=([],R.2):=(by rw [ai.o,Q,b4];rfl);have a4:=lH v;have j:=lH i;clear v i;go_upto_region 8 with (first
 | (go_at_call 34;(with_reducible refine (an.o _ _ _ _ H.o.nm).mono ?_);rintro E w6 ⟨rfl,O,S⟩;have H:=lH (H.o.call O S);have T:=G.o _ H.o.bel;clear O S)
 | (go_at_call 14;(with_reducible refine (am.o _ H.o.bel).mono ?_);rintro E w7 ⟨rfl,B⟩;have H:=lH (H.o.bl B);clear B)
 | (go_at_call 15;(with_reducible refine (a7.o _).mono ?_);rintro E w8 ⟨rfl,N⟩;have H:=lH (H.o.bl N);have T:=G.o _ H.o.bel;clear N)
 | (go_at_call 35;(with_reducible refine (al.o _ _ _ _ H.o.nm).mono ?_);rintro E w9 ⟨rfl,D,K⟩;have H:=lH (H.o.call D K);obtain ⟨x0,M,x2,V,F,t⟩:=H.o.cells;have f1:=F 1;have f2:=F 2;have Y:=t 2;clear F t;clear D K))
    refine qQt (E:=fun w'=>OfSt m W q g h u (.slice (some ⟨b,o,none⟩) d.length f) (.slice ca C.length cc) [] d C (p:Int) 60 60 91 w' R.2 R.1 []) (by rw [a4.o];exact H.o.setName _) ?_
    intro a2 l
    have H:=lH l
    have T:=G.o _ l.bel
    have M:=l.cells.2.1
    clear l
    go_upto_region 14 with fail
    refine qQt (E:=fun w'=>∃ (J:Nat) (s:St),OfSt m W q g J u (.slice (some ⟨b,o,none⟩) d.length f) (.slice ca C.length cc) [] d C (p:Int) 60 60 91 w' s R.1 a.1/\s.asked=a.2.asked) ⟨h,R.2,by rw [j.o];exact H.o,by rw [j.o]⟩ ?_
   case' cd=>
    rintro ⟨Q,rfl,b4⟩;have v:R=qQs d C 100 (p:Int) false false (markM d (p:Int) noSt):=(by rw [ah.o,Q];rfl);have i:a=(if ((qYv d C (p:Int) R.2).1.isEmpty&&!(tt==R.1))=true then (tt,(qYv d C (p:Int) R.2).2) else qYv d C (p:Int) R.2):=(by rw [ai.o,Q,b4];rfl);have a4:=lH v;have j:=lH i;clear v i;go_upto_region 8 with (first
 | (go_at_call 34;(with_reducible refine (an.o _ _ _ _ H.o.nm).mono ?_);rintro E w6 ⟨rfl,O,S⟩;have H:=lH (H.o.call O S);have T:=G.o _ H.o.bel;clear O S)
 | (go_at_call 14;(with_reducible refine (am.o _ H.o.bel).mono ?_);rintro E w7 ⟨rfl,B⟩;have H:=lH (H.o.bl B);clear B)
 | (go_at_call 15;(with_reducible refine (a7.o _).mono ?_);rintro E w8 ⟨rfl,N⟩;have H:=lH (H.o.bl N);have T:=G.o _ H.o.bel;clear N)
 | (go_at_call 35;(with_reducible refine (al.o _ _ _ _ H.o.nm).mono ?_);rintro E w9 ⟨rfl,D,K⟩;have H:=lH (H.o.call D K);obtain ⟨x0,M,x2,V,F,t⟩:=H.o.cells;have f1:=F 1;have f2:=F 2;have Y:=t 2;clear F t;clear D K))
    refine qQt (E:=fun w'=>OfSt m W q g h u (.slice (some ⟨b,o,none⟩) d.length f) (.slice ca C.length cc) [] d C (p:Int) 60 60 91 w' R.2 R.1 []) (by rw [a4.o];exact H.o.setName _) ?_
    intro a2 l
    have H:=lH l
    have T:=G.o _ l.bel
    have M:=l.cells.2.1
    clear l
    have c2:=H.o.nm.mem.c2
    have Y:a2.frozen? ⟨g,2,none⟩=false:=H.o.cells.2.2.2.2.2 2
    have bh:=lH (qJ3.made a2)
    have bd:Hi (∀ w',Bel a2 w'->w'.cell? ⟨g,2,none⟩=some (.map (some h))/\w'.frozen? ⟨g,2,none⟩=false):=lH (fun w' z=>⟨(H.o.bl z).nm.mem.c2,(H.o.bl z).cells.2.2.2.2.2 2⟩)
    clear a4 c2 Y
    go_upto_region 10 with (with_reducible refine qJ1 rfl (.inl rfl) qQ0 d5 bh.o (p:Int) rfl rfl rfl ?_;intro dn c9 bq d6;have ax:=lH (zWw bq);have bo:=lH c9;obtain ⟨c2,Y⟩:=bd.o _ ax.o;clear c9 bq d6)
    refine qQt (E:=fun w'=>OfSt m W q g a2.heap.size u (.slice (some ⟨b,o,none⟩) d.length f) (.slice ca C.length cc) [] d C (p:Int) 60 60 91 w' { had:=fun x=>x==(p:Int),asked:=R.2.asked } R.1 []) (H.o.rehad a2.heap.size ax.o (Zb _) bo.o) ?_
    clear bh bd ax bo c2 Y
    generalize a2.heap.size=h2
    intro dp bw
    have H:=lH bw
    clear bw T M
    obtain ⟨A,c4⟩:∃ x,x=qYv d C (p:Int) R.2:=⟨_,rfl⟩
    rw [<- c4] at bp j
    clear c4
    go_upto_region 11 with (go_at_call 36;(with_reducible refine (bp.o _ _ _ _ H.o.nm).mono ?_);rintro E dq ⟨rfl,D,K⟩;have H:=lH (H.o.call D K);obtain ⟨x0,M,x2,V,F,t⟩:=H.o.cells;have f1:=F 1;have f2:=F 2;have Y:=t 2;clear F t;clear D K)
    refine qQt (E:=fun w'=>OfSt m W q g h2 u (.slice (some ⟨b,o,none⟩) d.length f) (.slice ca C.length cc) [] d C (p:Int) 60 60 91 w' A.2 R.1 A.1) (H.o.setAbout _) ?_
    intro dr bx
    have H:=lH bx
    clear bx x0 M x2 V f1 f2 Y
    go_upto_region 12 with (go_at_call 37;(with_reducible refine (cq.o _ _ _ _ _ H.o.nm).mono ?_);rintro E ds ⟨rfl,B⟩;have H:=lH (H.o.bl B);obtain ⟨x0,M,x2,V,F,t⟩:=H.o.cells;have f1:=F 1;have f2:=F 2;have Y:=t 2;clear F t;clear B)
    have cx:A.1.isEmpty=false∨(A.1.isEmpty=true/\(tt==R.1)=true)∨(A.1.isEmpty=true/\(tt==R.1)=false):=by
     cases A.1.isEmpty <;> cases (tt==R.1) <;> simp
    refine cx.elim ?ce (fun hh=>hh.elim ?cf ?cg)
   case' ce=>
    intro aa;have i:a=A:=(by rw [j.o,aa];rfl);have j:=lH i;clear i;go_upto_region 14 with fail
    refine qQt (E:=fun w'=>∃ (J:Nat) (s:St),OfSt m W q g J u (.slice (some ⟨b,o,none⟩) d.length f) (.slice ca C.length cc) [] d C (p:Int) 60 60 91 w' s R.1 a.1/\s.asked=a.2.asked) ⟨h2,A.2,by rw [j.o];exact H.o,by rw [j.o]⟩ ?_
   case' cf=>
    rintro ⟨aa,b5⟩;have i:a=A:=(by rw [j.o,aa,b5];rfl);have j:=lH i;clear i;go_upto_region 14 with fail
    refine qQt (E:=fun w'=>∃ (J:Nat) (s:St),OfSt m W q g J u (.slice (some ⟨b,o,none⟩) d.length f) (.slice ca C.length cc) [] d C (p:Int) 60 60 91 w' s R.1 a.1/\s.asked=a.2.asked) ⟨h2,A.2,by rw [j.o];exact H.o,by rw [j.o]⟩ ?_
   case' cg=>
    rintro ⟨aa,b5⟩;have i:a=(tt,A.2):=(by rw [j.o,aa,b5];rfl);have j:=lH i;clear i;go_upto_region 14 with fail
    refine qQt (E:=fun w'=>∃ (J:Nat) (s:St),OfSt m W q g J u (.slice (some ⟨b,o,none⟩) d.length f) (.slice ca C.length cc) [] d C (p:Int) 60 60 91 w' s R.1 a.1/\s.asked=a.2.asked) ⟨h2,A.2,by rw [j.o];exact H.o.setAbout _,by rw [j.o]⟩ ?_
   all_goals
    clear H
    rintro af ⟨J,s,hS,bs⟩
    have H:=lH hS
    have ay:=lH bs
    have c3:=hS.nm.mem.c3
    clear hS bs
    obtain ⟨ks,hU,b3⟩:=H.o.nm.mem.use
    have HU:=lH hU
    have bf:=lH b3
    have a0:ks≠[]:=fun e=>by have:=b3 (p:Int);rw [ay.o,ch.o,e] at this;simp at this
    have b0:=lH a0
    have bg:Hi (∀ ab:List Int,ab.Nodup->(∀ x∈ab,x∈ks)->ab.length<=60):=lH (fun ab h1 h2=>by
     have:=qK7 d.length ab h1 (fun x hx=>by
      have ha:s.asked x=true:=(by rw [bf.o];simpa using h2 x hx);obtain ⟨k,hk,rfl⟩:=zH7 (H.o.nm.ok x ha).1;omega)
     have:=ck.o;omega)
    clear hU b3 a0
    go_wp2_with (at_range;refine zKo rfl rfl qQ0 rfl HU.o ?_;intro a6 c7 br b9;have HI:=lH c7;have b1:=lH (H.o.bl (Bel.of_none br));have cp:=lH b9;clear c7 br b9)
    go_frame
    have b6:q<af.heap.size:=H.o.out.lt
    have cn:=lH b6
    clear b6
    go_loopw [10] (fun _ wr=>∃ (done:List Int) (uv:Value),qKs wr u af.heap.size ks done/\Blk wr q [.int .i64 (p:Int),.string ⟨R.1.toArray⟩,.string ⟨a.1.toArray⟩,uv] 60/\qQb 1 qQf a6.heap.size 3 wr uv done/\Bel W wr/\a6.heap.size<=wr.heap.size/\Blk wr W.heap.size [.int .i64 0,.string ⟨#[]⟩,.string ⟨#[]⟩,.slice none 0 0] 60) (fun _ wr=>100 - zYk wr q 3)
    case atStart=>exact ⟨[],_,HI.o,b1.o.out,qQb.nil _ _ _,b1.o.bel,Zb _,b1.o.res⟩
    case round=>
     obtain ⟨done,uv,hI,hQ,hO,hB,bz,hz⟩:=hrel;have HI:=lH hI;have HQ:=lH hQ;have HO:=lH hO;have HB:=lH hB;have HZ:=lH hz;have co:=lH bz;have dd:=bg.o done hI.nodup hI.sub;obtain ⟨ua,uc,rfl,o1,o2⟩:=Rf hO.read;have ci:=lH (zZd (hQ.cell 3));have a3:=lH (fun b z=>hO.lt b z);have b9:=cp.o;have b6:=cn.o;have n0:=H.o.ne;have a5:Hi (u<af.heap.size/\W.heap.size<af.heap.size):=lH ⟨HU.o.lt,by omega⟩;clear hI hQ hO hB hz bz;go_wp2_with (at_next;refine zYc rfl rfl rfl HI.o ?_ ?_)
     ·intro hp;have c1:done≠[]:=fun e=>b0.o (by subst e;simpa using hp);have HR:Hi (done.mergeSort leI=qWm d a.2):=lH (by
       have hk:qH6 d a.2:=fun x hx=>by
        rw [<- ay.o] at hx ⊢;exact H.o.nm.ok x hx
       exact uses_eq hk (fun x=>by rw [<- ay.o];exact bf.o x) HI.o.nodupK hp)
      have cr:=lH (qW6 HO.o c1 (by omega));have V:=HQ.o.cell 3;simp only [Ze,Zd] at V;clear hp c1;go_wp2_with (go_at_call 22;(with_reducible refine cr.o.mono ?_);rintro E U ⟨rfl,c8,I⟩;have bj:=lH c8;have bc:=lH I;have a1:=HQ.o.of (I.block q HQ.o.lt (fun e=>by have:=a3.o q e.symm;omega));have Z:=HZ.o.of (I.block W.heap.size HZ.o.lt (fun e=>by have:=a3.o _ e.symm;have:=a5.o;omega));have y0:=a1.cell 0;have y1:=a1.cell 1;have y2:=a1.cell 2;have y3:=a1.cell 3;simp only [Ze,Zd] at y0 y1 y2 y3;have k0:=Z.cell 0;have k1:=Z.cell 1;have k2:=Z.cell 2;have k3:=Z.cell 3;simp only [Ze,Zd] at k0 k1 k2 k3;have ff:=fun d4=>Z.frozen d4;have ak:=lH Z;clear c8 I a1 Z)
      have a8:=(((ak.o.set 0 (.int .i64 (p:Int))).set 1 (.string ⟨R.1.toArray⟩)).set 2 (.string ⟨a.1.toArray⟩)).set 3 (.slice ua done.length uc);have cs:Bel W ((((U.setCell ⟨W.heap.size,0,none⟩ (.int .i64 (p:Int))).setCell ⟨W.heap.size,1,none⟩ (.string ⟨R.1.toArray⟩)).setCell ⟨W.heap.size,2,none⟩ (.string ⟨a.1.toArray⟩)).setCell ⟨W.heap.size,3,none⟩ (.slice ua done.length uc)):=by
       have h0:Bel W U:=Below.grown HB.o bc.o HB.o.size (fun k hk=>by have:=(a3.o k hk).1;have:=a5.o;omega);exact Bel.setCell (Bel.setCell (Bel.setCell (Bel.setCell h0 _ 0 _ (Zb _)) _ 1 _ (Zb _)) _ 2 _ (Zb _)) _ 3 _ (Zb _)
      have ap:qQb 1 qQf a6.heap.size 3 ((((U.setCell ⟨W.heap.size,0,none⟩ (.int .i64 (p:Int))).setCell ⟨W.heap.size,1,none⟩ (.string ⟨R.1.toArray⟩)).setCell ⟨W.heap.size,2,none⟩ (.string ⟨a.1.toArray⟩)).setCell ⟨W.heap.size,3,none⟩ (.slice ua done.length uc)) (.slice ua done.length uc) (done.mergeSort leI):=bj.o.agree (fun b z=>by
       have h1:=(bj.o.lt b z).1;have h2:=a5.o;have a0:b≠W.heap.size:=(by omega);rw [Below.heap_setCell _ _ _ b a0,Below.heap_setCell _ _ _ b a0,Below.heap_setCell _ _ _ b a0,Below.heap_setCell _ _ _ b a0]) (fun _ _ _ h=>h)
      have j0:=a8.cell 0;have j1:=a8.cell 1;have j2:=a8.cell 2;have j3:=a8.cell 3;simp only [Zg,Zf,Ze,Zd] at j0 j1 j2 j3;clear a8 y0 y1 y2 y3 k0 k1 k2 k3 ff V;generalize ((((U.setCell ⟨W.heap.size,0,none⟩ (.int .i64 (p:Int))).setCell ⟨W.heap.size,1,none⟩ (.string ⟨R.1.toArray⟩)).setCell ⟨W.heap.size,2,none⟩ (.string ⟨a.1.toArray⟩)).setCell ⟨W.heap.size,3,none⟩ (.slice ua done.length uc))=w4 at *
      rw [HR.o] at ap;refine bodyPost_ret (v:=.agg #[.int .i64 (p:Int),.string ⟨R.1.toArray⟩,.string ⟨a.1.toArray⟩,.slice ua done.length uc]) (by simp [results,Tryz.results16,go_sem,j0,j1,j2,j3]) rfl ?_;exact ⟨cs,_,rfl,_,rfl,ap.base_le (by have:=a5.o;omega)⟩
     ·intro k U hk cz ao I d7 db;have be:=lH ao;have bc:=lH I;have cm:=lH (bg.o (done++[k]) ao.nodup ao.sub);have a1:=HQ.o.of (I.block q HQ.o.lt (fun e=>by have:=Option.some.inj e;omega));have bv:qQb 1 qQf a6.heap.size 3 U (.slice ua done.length uc) done:=HO.o.agree (fun b z=>I.block b (a3.o b z).2 (fun e=>by have:=Option.some.inj e;have:=(a3.o b z).1;omega)) (fun _ _ _ h=>h);have Z:=HZ.o.of (I.block W.heap.size HZ.o.lt (fun e=>by have:=Option.some.inj e;have:=a5.o;omega));have bt:Bel W U:=Below.grown HB.o I HB.o.size (fun k hk=>by cases hk;omega);have bl:=lH a1;have cl:=lH bv;have ak:=lH Z;have ba:=lH bt;have df:a6.heap.size<=U.heap.size:=Za co.o I.size;have V:=a1.cell 3;simp only [Ze,Zd] at V;have cj:Hi (∀ w',U.grownBy w' (Value.slice ua done.length uc).ownBlock->Blk w' q [.int .i64 (p:Int),.string ⟨R.1.toArray⟩,.string ⟨a.1.toArray⟩,.slice ua done.length uc] 60):=lH (fun w' hg=>bl.o.of (hg.block q bl.o.lt (fun e=>by have:=a3.o q e.symm;omega)));clear I ao a1 bv Z bt d7 hk cz;go_wp2_with (at_builtin;go_must (refine qK4 rfl _ _ _ rfl qJg (by decide) qQc qKq rfl cl.o rfl ?hg k ⟨rfl,rfl⟩ ?hb1 ?hb2 ?hb3 ?_);(case hg=>simp);(case hb1=>omega);(case hb2=>omega);(case hb3=>omega);intro dm ag b8 b2;obtain ⟨ac,ad,e3,l1,l2⟩:=Rf b8.read;rw [show (done++[k]).length=done.length+1 by simp] at e3;subst e3;have bk:=lH b8;have az:=lH b2;have aj:=lH (cj.o _ b2);have y3:=aj.o.cell 3;have f3:=aj.o.frozen 3;simp only [Ze,Zd] at y3;clear b8 b2)
      go_roundw;case rel=>
       have c5:=be.o.lt;have hst:∀ b,b≠q->(ag.setCell ⟨q,3,none⟩ (.slice ac (done.length+1) ad)).heap[b]?=ag.heap[b]?:=fun b z=>Below.heap_setCell _ _ _ b z;have b7:∀ b,b<af.heap.size+1->b<U.heap.size->ag.heap[b]?=U.heap[b]?:=fun b z hb2=>az.o.block b hb2 (fun e=>by have:=(a3.o b e.symm).1;omega);have ap:qQb 1 qQf a6.heap.size 3 (ag.setCell ⟨q,3,none⟩ (.slice ac (done.length+1) ad)) (.slice ac (done.length+1) ad) (done++[k]):=bk.o.agree (fun b z=>hst b (fun e=>by have:=(bk.o.lt b z).1;omega)) (fun _ _ _ h=>h);refine ⟨done++[k],.slice ac (done.length+1) ad,be.o.agree ?_ ?_,aj.o.set 3 _,ap,?_,?_,?_⟩
       ·rw [hst u (by omega),b7 u (by have:=a5.o;omega) c5.1]
       ·rw [hst _ (by omega),b7 _ (by omega) c5.2.1]
       ·exact Bel.setCell (Below.grown ba.o az.o ba.o.size (fun k hk=>by have:=(a3.o k hk).1;have:=a5.o;omega)) q 3 _ (by omega)
       ·have:=az.o.size;simp only [World.size_setCell];omega
       ·exact (ak.o.of (b7 _ (by have:=a5.o;omega) ak.o.lt)).other _ _ (by show W.heap.size≠q;omega)
      case measure=>
       have hc:=zZd (w:=ag.setCell ⟨q,3,none⟩ (.slice ac (done.length+1) ad)) ((aj.o.set 3 _).cell 3);have cu:=ci.o;have d1:=cm.o;simp only [Zj,Zm,List.length_nil] at d1;rw [hc,cu];omega
