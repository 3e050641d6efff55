/- diff.same: walked. (Printed by wip/tools/diffsame.py.) -/
import Derived.Test.YthbhcdbedfimhaaGreatDoorDiffOfM
import Derived.Lib.AtoiAllCases
import Derived.Lib.ItoaLen
set_option maxRecDepth 100000
set_option maxHeartbeats 4000000
namespace Go.Proofs.YthbhcdbedfimhaaGreatDoor
open Go.RowKit
variable {B t:Fl} {x:Int} {evs:List Evt} {l:List Int} {a b:List It} {D b1 b2 base i k o1 o2:Nat} {y:Value} {w0:WP} {w:World}
def zXj (id:Nat):Code->Option (Array Oper)
 | .region k ops _=>if k=id then some ops else none
 | .seq a b=>(zXj id a).or (zXj id b)
 | .cond _ a b=>(zXj id a).or (zXj id b)
 | .block _ a=>zXj id a
 | .loop a=>zXj id a
 | .scope a=>zXj id a
 | _=>none
theorem qWj {x:Option (Array Oper)} {f:Array Oper->Bool} (h:x.map f=some true) {o:Array Oper} (e:x=some o):f o=true:=by
 rw [e] at h;exact Option.some.inj h
theorem qXm:(Tryz.f79.body.bind (zXj 1)).map (fun o=>planA .any o (List.range 76) [] [])=some true:=by kernel_rfl
def SmC (w:World) (b1 o1 b2 o2:Nat) (x y:Hd):Prop:=∀ w',Bel w w'->w'.cell? ⟨b1,o1,none⟩=some (.int .i64 x.node)/\w'.cell? ⟨b2,o2,none⟩=some (.int .i64 y.node)/\w'.cell? ⟨b1,o1+1,none⟩=some (.int .i64 x.role)/\w'.cell? ⟨b2,o2+1,none⟩=some (.int .i64 y.role)/\w'.cell? ⟨b1,o1+2,none⟩=some (.string ⟨x.name.toArray⟩)/\w'.cell? ⟨b2,o2+2,none⟩=some (.string ⟨y.name.toArray⟩)/\w'.cell? ⟨b1,o1+3,none⟩=some (.string ⟨x.about.toArray⟩)/\w'.cell? ⟨b2,o2+3,none⟩=some (.string ⟨y.about.toArray⟩)/\w'.cell? ⟨b1,o1+4,none⟩=some (.int .i64 x.level)/\w'.cell? ⟨b2,o2+4,none⟩=some (.int .i64 y.level)/\w'.cell? ⟨b1,o1+5,none⟩=some (.int .i64 x.checked)/\w'.cell? ⟨b2,o2+5,none⟩=some (.int .i64 y.checked)/\w'.cell? ⟨b1,o1+6,none⟩=some (.bool x.off)/\w'.cell? ⟨b2,o2+6,none⟩=some (.bool y.off)
theorem same_0 (X:Int) (p:Int) (m:Txt) (d:Txt) (j:Int) (g:Int) (o:Bool) (Y:Int) (E:Int) (z:Txt) (q:Txt) (v:Int) (u:Int) (A:Bool) (h:SmC w b1 o1 b2 o2 ⟨X,p,m,d,j,g,o⟩ ⟨Y,E,z,q,v,u,A⟩) (e:(X==Y)=false) :
 Calls Tryz.prog 79 #[.pointer (some ⟨b1,o1,none⟩),.pointer (some ⟨b2,o2,none⟩)] w (Rb (.bool false) w):=by
 simp only [SmC] at h;have C:=lH h;clear h;go_enter Tryz.func79,Tryz.ntmps79
 go_upto_region 1 with fail
 refine qQ5 (List.range 76) [] [] (fun _ W=>Bel w W) (by kernel_rfl) (qWj qXm (by kernel_rfl)) (Br w).drew ?_;simp only [pickL,List.map_nil,List.range,List.range.loop,List.filterMap_cons,List.filterMap_nil];iterate 76 (first
 | (refine qZm.cons (fun _=>Says.skip ?_) ?_;rfl;simp only [Act.put,Zh,Zf,Zg])
 | (refine qZm.cons (v:=?_) (fun _=>Says.plain ?_ ?_) ?_;rotate_left;rfl;(intro W S;obtain ⟨P,Q,F,N,G,O,I,R,J,T,K,V,M,Z⟩:=C.o W S;go_simp;with_reducible rfl);simp only [Act.put,Zh,Zf,Zg]))
 refine qZm.nil ⟨by simp,trivial,fun U w8 H=>?_⟩;simp only [List.foldl_nil];have c:=lH H;clear H;go_wp2;go_ret;exact ⟨rfl,c.o⟩
theorem same_1 (X:Int) (c:Int) (o:Txt) (g:Txt) (m:Int) (j:Int) (p:Bool) (Y:Int) (z:Txt) (q:Txt) (v:Int) (u:Int) (A:Bool) (h:SmC w b1 o1 b2 o2 ⟨X,c,o,g,m,j,p⟩ ⟨X,Y,z,q,v,u,A⟩) (e:(c==Y)=false) :
 Calls Tryz.prog 79 #[.pointer (some ⟨b1,o1,none⟩),.pointer (some ⟨b2,o2,none⟩)] w (Rb (.bool false) w):=by
 simp only [SmC] at h;have C:=lH h;clear h;go_enter Tryz.func79,Tryz.ntmps79
 go_upto_region 1 with fail
 refine qQ5 (List.range 76) [] [] (fun _ W=>Bel w W) (by kernel_rfl) (qWj qXm (by kernel_rfl)) (Br w).drew ?_;simp only [pickL,List.map_nil,List.range,List.range.loop,List.filterMap_cons,List.filterMap_nil];iterate 76 (first
 | (refine qZm.cons (fun _=>Says.skip ?_) ?_;rfl;simp only [Act.put,Zh,Zf,Zg])
 | (refine qZm.cons (v:=?_) (fun _=>Says.plain ?_ ?_) ?_;rotate_left;rfl;(intro W S;obtain ⟨P,Q,E,M,F,N,G,O,I,R,J,T,K,V⟩:=C.o W S;go_simp;with_reducible rfl);simp only [Act.put,Zh,Zf,Zg]))
 refine qZm.nil ⟨by simp,trivial,fun U Z H=>?_⟩;simp only [List.foldl_nil];have d:=lH H;clear H;go_wp2;go_ret;exact ⟨rfl,d.o⟩
theorem same_2 (c:Int) (d:Int) (X:Txt) (j:Txt) (o:Int) (m:Int) (p:Bool) (Y:Txt) (q:Txt) (v:Int) (u:Int) (z:Bool) (h:SmC w b1 o1 b2 o2 ⟨c,d,X,j,o,m,p⟩ ⟨c,d,Y,q,v,u,z⟩) (e:(X==Y)=false) :
 Calls Tryz.prog 79 #[.pointer (some ⟨b1,o1,none⟩),.pointer (some ⟨b2,o2,none⟩)] w (Rb (.bool false) w):=by
 simp only [SmC] at h;have C:=lH h;clear h;go_enter Tryz.func79,Tryz.ntmps79
 go_upto_region 1 with fail
 refine qQ5 (List.range 76) [] [] (fun _ W=>Bel w W) (by kernel_rfl) (qWj qXm (by kernel_rfl)) (Br w).drew ?_;simp only [pickL,List.map_nil,List.range,List.range.loop,List.filterMap_cons,List.filterMap_nil];iterate 76 (first
 | (refine qZm.cons (fun _=>Says.skip ?_) ?_;rfl;simp only [Act.put,Zh,Zf,Zg])
 | (refine qZm.cons (v:=?_) (fun _=>Says.plain ?_ ?_) ?_;rotate_left;rfl;(intro W S;obtain ⟨P,Q,A,K,E,M,F,N,G,O,I,R,J,T⟩:=C.o W S;go_simp;with_reducible rfl);simp only [Act.put,Zh,Zf,Zg]))
 refine qZm.nil ⟨by simp,trivial,fun U V H=>?_⟩;simp only [List.foldl_nil];have g:=lH H;clear H;go_wp2;go_ret;exact ⟨rfl,g.o⟩
theorem same_3 (c:Int) (d:Int) (m:Txt) (X:Txt) (o:Int) (j:Int) (p:Bool) (Y:Txt) (u:Int) (q:Int) (v:Bool) (h:SmC w b1 o1 b2 o2 ⟨c,d,m,X,o,j,p⟩ ⟨c,d,m,Y,u,q,v⟩) (e:(X==Y)=false) :
 Calls Tryz.prog 79 #[.pointer (some ⟨b1,o1,none⟩),.pointer (some ⟨b2,o2,none⟩)] w (Rb (.bool false) w):=by
 simp only [SmC] at h;have C:=lH h;clear h;go_enter Tryz.func79,Tryz.ntmps79
 go_upto_region 1 with fail
 refine qQ5 (List.range 76) [] [] (fun _ W=>Bel w W) (by kernel_rfl) (qWj qXm (by kernel_rfl)) (Br w).drew ?_;simp only [pickL,List.map_nil,List.range,List.range.loop,List.filterMap_cons,List.filterMap_nil];iterate 76 (first
 | (refine qZm.cons (fun _=>Says.skip ?_) ?_;rfl;simp only [Act.put,Zh,Zf,Zg])
 | (refine qZm.cons (v:=?_) (fun _=>Says.plain ?_ ?_) ?_;rotate_left;rfl;(intro W S;obtain ⟨P,Q,z,J,A,K,E,M,F,N,G,O,I,R⟩:=C.o W S;go_simp;with_reducible rfl);simp only [Act.put,Zh,Zf,Zg]))
 refine qZm.nil ⟨by simp,trivial,fun U T H=>?_⟩;simp only [List.foldl_nil];have g:=lH H;clear H;go_wp2;go_ret;exact ⟨rfl,g.o⟩
theorem same_4 (d:Int) (g:Int) (m:Txt) (X:Txt) (c:Int) (o:Int) (p:Bool) (Y:Int) (q:Int) (u:Bool) (h:SmC w b1 o1 b2 o2 ⟨d,g,m,X,c,o,p⟩ ⟨d,g,m,X,Y,q,u⟩) (e:(c==Y)=false) :
 Calls Tryz.prog 79 #[.pointer (some ⟨b1,o1,none⟩),.pointer (some ⟨b2,o2,none⟩)] w (Rb (.bool false) w):=by
 simp only [SmC] at h;have C:=lH h;clear h;go_enter Tryz.func79,Tryz.ntmps79
 go_upto_region 1 with fail
 refine qQ5 (List.range 76) [] [] (fun _ W=>Bel w W) (by kernel_rfl) (qWj qXm (by kernel_rfl)) (Br w).drew ?_;simp only [pickL,List.map_nil,List.range,List.range.loop,List.filterMap_cons,List.filterMap_nil];iterate 76 (first
 | (refine qZm.cons (fun _=>Says.skip ?_) ?_;rfl;simp only [Act.put,Zh,Zf,Zg])
 | (refine qZm.cons (v:=?_) (fun _=>Says.plain ?_ ?_) ?_;rotate_left;rfl;(intro W S;obtain ⟨P,Q,v,I,z,J,A,K,E,M,F,N,G,O⟩:=C.o W S;go_simp;with_reducible rfl);simp only [Act.put,Zh,Zf,Zg]))
 refine qZm.nil ⟨by simp,trivial,fun U R H=>?_⟩;simp only [List.foldl_nil];have j:=lH H;clear H;go_wp2;go_ret;exact ⟨rfl,j.o⟩
theorem same_5 (g:Int) (j:Int) (m:Txt) (X:Txt) (d:Int) (c:Int) (p:Bool) (Y:Int) (q:Bool) (h:SmC w b1 o1 b2 o2 ⟨g,j,m,X,d,c,p⟩ ⟨g,j,m,X,d,Y,q⟩) (e:(c==Y)=false) :
 Calls Tryz.prog 79 #[.pointer (some ⟨b1,o1,none⟩),.pointer (some ⟨b2,o2,none⟩)] w (Rb (.bool false) w):=by
 simp only [SmC] at h;have C:=lH h;clear h;go_enter Tryz.func79,Tryz.ntmps79
 go_upto_region 1 with fail
 refine qQ5 (List.range 76) [] [] (fun _ W=>Bel w W) (by kernel_rfl) (qWj qXm (by kernel_rfl)) (Br w).drew ?_;simp only [pickL,List.map_nil,List.range,List.range.loop,List.filterMap_cons,List.filterMap_nil];iterate 76 (first
 | (refine qZm.cons (fun _=>Says.skip ?_) ?_;rfl;simp only [Act.put,Zh,Zf,Zg])
 | (refine qZm.cons (v:=?_) (fun _=>Says.plain ?_ ?_) ?_;rotate_left;rfl;(intro W S;obtain ⟨P,Q,u,G,v,I,z,J,A,K,E,M,F,N⟩:=C.o W S;go_simp;with_reducible rfl);simp only [Act.put,Zh,Zf,Zg]))
 refine qZm.nil ⟨by simp,trivial,fun U O H=>?_⟩;simp only [List.foldl_nil];have o:=lH H;clear H;go_wp2;go_ret;exact ⟨rfl,o.o⟩
theorem same_6 (g:Int) (j:Int) (m:Txt) (X:Txt) (d:Int) (c:Int) (o:Bool) (Y:Bool) (h:SmC w b1 o1 b2 o2 ⟨g,j,m,X,d,c,o⟩ ⟨g,j,m,X,d,c,Y⟩) (e:(o==Y)=false) :
 Calls Tryz.prog 79 #[.pointer (some ⟨b1,o1,none⟩),.pointer (some ⟨b2,o2,none⟩)] w (Rb (.bool false) w):=by
 simp only [SmC] at h;have C:=lH h;clear h;go_enter Tryz.func79,Tryz.ntmps79
 go_upto_region 1 with fail
 refine qQ5 (List.range 76) [] [] (fun _ W=>Bel w W) (by kernel_rfl) (qWj qXm (by kernel_rfl)) (Br w).drew ?_;simp only [pickL,List.map_nil,List.range,List.range.loop,List.filterMap_cons,List.filterMap_nil];iterate 76 (first
 | (refine qZm.cons (fun _=>Says.skip ?_) ?_;rfl;simp only [Act.put,Zh,Zf,Zg])
 | (refine qZm.cons (v:=?_) (fun _=>Says.plain ?_ ?_) ?_;rotate_left;rfl;(intro W S;obtain ⟨P,Q,q,F,u,G,v,I,z,J,A,K,E,M⟩:=C.o W S;go_simp;with_reducible rfl);simp only [Act.put,Zh,Zf,Zg]))
 refine qZm.nil ⟨by simp,trivial,fun U N H=>?_⟩;simp only [List.foldl_nil];have p:=lH H;clear H;go_wp2;go_ret;exact ⟨rfl,p.o⟩
theorem same_7 (e:Int) (g:Int) (m:Txt) (X:Txt) (d:Int) (c:Int) (o:Bool)  (h:SmC w b1 o1 b2 o2 ⟨e,g,m,X,d,c,o⟩ ⟨e,g,m,X,d,c,o⟩) :
 Calls Tryz.prog 79 #[.pointer (some ⟨b1,o1,none⟩),.pointer (some ⟨b2,o2,none⟩)] w (Rb (.bool true) w):=by
 simp only [SmC] at h;have C:=lH h;clear h;go_enter Tryz.func79,Tryz.ntmps79
 go_upto_region 1 with fail
 refine qQ5 (List.range 76) [] [] (fun _ W=>Bel w W) (by kernel_rfl) (qWj qXm (by kernel_rfl)) (Br w).drew ?_;simp only [pickL,List.map_nil,List.range,List.range.loop,List.filterMap_cons,List.filterMap_nil];iterate 76 (first
 | (refine qZm.cons (fun _=>Says.skip ?_) ?_;rfl;simp only [Act.put,Zh,Zf,Zg])
 | (refine qZm.cons (v:=?_) (fun _=>Says.plain ?_ ?_) ?_;rotate_left;rfl;(intro W S;obtain ⟨p,Q,P,E,q,F,u,G,v,I,z,J,A,K⟩:=C.o W S;go_simp;with_reducible rfl);simp only [Act.put,Zh,Zf,Zg]))
 refine qZm.nil ⟨by simp,trivial,fun U M H=>?_⟩;simp only [List.foldl_nil];have j:=lH H;clear H;go_wp2;go_ret;exact ⟨rfl,j.o⟩
theorem zZl {x y:Hd} {K v:Value} (c:TabC w b1 o1 x K) (d:TabC w b2 o2 y v) :
 Calls Tryz.prog 79 #[.pointer (some ⟨b1,o1,none⟩),.pointer (some ⟨b2,o2,none⟩)] w (Rb (.bool (decide (x=y))) w):=by
 have e:=World.block_lt_of_cell? w _ c.node;have g:=World.block_lt_of_cell? w _ d.node;have h:SmC w b1 o1 b2 o2 x y:=fun W H=>⟨(H.cells b1 _ e).trans c.node,(H.cells b2 _ g).trans d.node,(H.cells b1 _ e).trans c.role,(H.cells b2 _ g).trans d.role,(H.cells b1 _ e).trans c.name,(H.cells b2 _ g).trans d.name,(H.cells b1 _ e).trans c.about,(H.cells b2 _ g).trans d.about,(H.cells b1 _ e).trans c.level,(H.cells b2 _ g).trans d.level,(H.cells b1 _ e).trans c.checked,(H.cells b2 _ g).trans d.checked,(H.cells b1 _ e).trans c.off,(H.cells b2 _ g).trans d.off⟩;clear c d e g;obtain ⟨F,I,C,X,A,z,G⟩:=x;obtain ⟨O,Q,N,Y,M,J,P⟩:=y;simp only [Hd.mk.injEq];by_cases E:F=O;case neg=>
  rw [decide_eq_false (fun h=>E h.1)];exact same_0 _ _ _ _ _ _ _ _ _ _ _ _ _ _ h (by simpa using E)
 subst E;by_cases j:I=Q;case neg=>
  rw [decide_eq_false (fun h=>j h.2.1)];exact same_1 _ _ _ _ _ _ _ _ _ _ _ _ _ h (by simpa using j)
 subst j;by_cases m:C=N;case neg=>
  rw [decide_eq_false (fun h=>m h.2.2.1)];exact same_2 _ _ _ _ _ _ _ _ _ _ _ _ h (by simpa using m)
 subst m;by_cases o:X=Y;case neg=>
  rw [decide_eq_false (fun h=>o h.2.2.2.1)];exact same_3 _ _ _ _ _ _ _ _ _ _ _ h (by simpa using o)
 subst o;by_cases p:A=M;case neg=>
  rw [decide_eq_false (fun h=>p h.2.2.2.2.1)];exact same_4 _ _ _ _ _ _ _ _ _ _ h (by simpa using p)
 subst p;by_cases q:z=J;case neg=>
  rw [decide_eq_false (fun h=>q h.2.2.2.2.2.1)];exact same_5 _ _ _ _ _ _ _ _ _ h (by simpa using q)
 subst q;by_cases u:G=P;case neg=>
  rw [decide_eq_false (fun h=>u h.2.2.2.2.2.2)];exact same_6 _ _ _ _ _ _ _ _ h (by simpa using u)
 subst u;rw [decide_eq_true ⟨rfl,rfl,rfl,rfl,rfl,rfl,rfl⟩];exact same_7 _ _ _ _ _ _ _ h
def AllAt (base k:Nat) (w:World) (y:Value) (b:List It):Prop:=
 ∃ h ks g v,b=[.mk h ks]/\y=.slice (some ⟨g,0,none⟩) 1 1/\base<=g/\Blk w g ([.int .i64 5,.int .i64 0,.int .i64 0,.int .i64 0]++qQe h v) 61/\ItsK (fun x=>base<=x/\x<w.heap.size) k w v ks
def AllM (a b:List It):Prop:=b.length=1/\(a=[]∨20<(evsM a b).length)
open Classical in
def OfAt (base k:Nat) (w:World) (y:Value) (a b:List It):Prop:=
 if AllM a b then AllAt base k w y b else qQb 12 rdEv base 61 w y (evsM a b)
theorem OfAt.all (h:AllM a b) (q:AllAt base k w y b):OfAt base k w y a b:=by
 unfold OfAt;rw [if_pos h];exact q
theorem OfAt.plain (h:¬ AllM a b) (q:qQb 12 rdEv base 61 w y (evsM a b)):OfAt base k w y a b:=by
 unfold OfAt;rw [if_neg h];exact q
theorem jQa {w0 W:World} {L:List Int} {S:Int->Sv} {lab:Nat->Int} (o:Wf t) (j:zQ7 t) (g:Fits L t) (T:qQy w0.heap.size W S lab t) (d:Bel w0 W) :
 Dif ⟨w0,fun _=>False,w0⟩ W.heap.size (W.alloc (.cells #[(S (-1)).v,.slice none 0 0] 151)) L t []:=by
 have c:Bel W (W.alloc (.cells #[(S (-1)).v,.slice none 0 0] 151)):=(Br W).alloc _;have H:=Blk.new' W _ rfl #[(S (-1)).v,.slice none 0 0] 151;exact ⟨o,j,g,d.size,Bt d c,⟨S,lab,.slice none 0 0,T.bel c,⟨H.cell 0,H.frozen 0,H.lt,fun n m e=>by
  have:=(T.lt m e).2;exact Nat.lt_irrefl _ this⟩,H.cell 1,H.frozen 1,qQb.nil _ _ _,(fun e=>by cases e),(fun _ _ _ _ e=>by cases e),fun _ h=>h.elim⟩,⟨_,_,H⟩,fun _ h=>h.elim⟩
theorem dif_now {L:List Int} (M:Dif w0 D w L t evs):∃ a n c,w.cell? ⟨D,0,none⟩=some (.slice a n c)/\∀ k d N,Falls t.kids d N->N<k->ItsK (·<w.heap.size) k w (.slice a n c) (itsOf t k (-1)):=by
 obtain ⟨H,j,m,o,p,⟨S,J,O,K,g,z,A,C,E,G,I⟩,u,q⟩:=M;exact ⟨(S (-1)).a,(S (-1)).n,(S (-1)).c,g.cell,fun k d N F v=>(zFa K.rd H F k (-1) (.inl rfl) (by omega)).mono (fun b e=>e.2)⟩
theorem dif_out {L:List Int} (M:Dif w0 D w L t evs):∃ a c,w.cell? ⟨D,1,none⟩=some (.slice a evs.length c)/\qQb 12 rdEv w0.heap.size 61 w (.slice a evs.length c) evs:=by
 obtain ⟨S,q,O,e,g,d,j,K,m,o,p⟩:=M.st;obtain ⟨a,c,rfl,_,_⟩:=Rf K.read;exact ⟨a,c,d,K⟩
theorem qDl {L:List Int} (M:Dif w0 D w L t evs) {v:Value} {Q:Nat->Prop} (h:qQa 1 qQh Q w0.wp v l) (c:∀ b,Q b->w0.P b):qQa 1 qQh (·<w.heap.size) w v l:=
 (qQa.agree h (fun b H=>(M.kept b (c b H)).1) (fun _ _ _ h=>h)).mono (fun b H=>(M.kept b (c b H)).2) (fun _ _ _ h=>h)
theorem dif_lone {L:List Int} (M:Dif w0 D w L t evs) (u:L.length<=1000000000) (p:Has t x) {v K:Value} {d:List Int} {m g o:Nat} (z:qKz m w v d) (hm:m<=w.heap.size) (j:∀ n,n∈d↔Has B n)
 (T:TabC w g o (t.head x) K) (I:∀ k c N,Falls t.kids c N->N<k->ItsK (·<w.heap.size) k w K (itsOf t k x)) :
 ∃ r,Calls Tryz.prog 76 #[.pointer (some ⟨g,o,none⟩),v] w (Rb (.bool r) w)/\(r=true↔∀ y,Reach t.kids x y->¬ Has B y):=by
 obtain ⟨c,N,F⟩:=M.wf.falls;have e:nodesL [It.mk (t.head x) (itsOf t (N+1) x)]=zX4 t (N+1) x:=by
  rw [nodesL,nodesI,nodesL,List.append_nil,zQr M.wf M.heads,M.heads x p];rfl
 refine ⟨_,zZc z hm T (I (N+1) c N F (Nat.lt_succ_self N)) (by rw [e];exact Za (zGz M.wf M.fits F (Nat.lt_succ_self N) p) u),?_⟩;rw [e,Bool.not_eq_true',List.any_eq_false];constructor
 ·intro h y H q;have:=h y ((zYk F (Nat.lt_succ_self N)).2 H);simp at this;exact this ((j y).2 q)
 ·intro h y H;have:=h y ((zYk F (Nat.lt_succ_self N)).1 H);rw [<- j] at this;simpa using this
theorem zHi (B:Fl) (t:Fl) (H:i<l.length):lonesF B (l.drop i) t=lonesF B (l[i]::l.drop (i+1)) t:=by rw [List.drop_eq_getElem_cons H]
theorem zGr (B:Fl) (t:Fl) (H:i<l.length):dropsF B (l.drop i) t=dropsF B (l[i]::l.drop (i+1)) t:=by rw [List.drop_eq_getElem_cons H]
theorem zHt (B:Fl) (t:Fl) (H:i<l.length):tellsF B (l.drop i) t=tellsF B (l[i]::l.drop (i+1)) t:=by rw [List.drop_eq_getElem_cons H]
theorem zXb {W:World} {h:Hd} {ks:List It} {S:List Nat} (o:OwnT base k W y [It.mk h ks] S):∃ g O C K d,y=.slice (some ⟨g,O,none⟩) 1 C/\1<=C/\C<=9223372036854775807/\TabC W g O h (.slice K ks.length d)/\ItsK (fun x=>base<=x/\x<W.heap.size) k W (.slice K ks.length d) ks:=by
 obtain ⟨g,O,C,v,m,rfl,e,E,j,_,I⟩:=(o.its.mono (fun b H=>o.lt b H)).item 0 (by simp);obtain ⟨K,d,rfl,_,_⟩:=Rf I.kidsAt;have c:=I;simp only [Nat.zero_mul,Nat.add_zero,List.getElem_cons_zero] at c;exact ⟨g,O,C,K,d,e,E,j,⟨c.node,c.role,c.name,c.about,c.level,c.checked,c.off,c.kids⟩,c.kidsAt.le (Nat.le_succ _)⟩
theorem rd_find {A:World} {V:Int->Value} {G:Nat} (R:qY8 (·<A.heap.size) A V B) (c:Wf B) (S:zQ7 B) (d:A.cell? ⟨G,0,none⟩=some (V (-1))) (e:Has B x) :
 ∃ (u:Addr) (g o q cb:Nat) (K:Option Addr) (X p:Nat) (I:Nat),I<q/\q<=cb/\cb<=9223372036854775807/\∀ W,Bel A W->Calls Tryz.prog 30 #[.pointer (some ⟨G,0,none⟩),.int .i64 x] W (Rv (.tuple #[.pointer (some u),.int .i64 (I:Int)]) W)/\W.cell? u=some (.slice (some ⟨g,o,none⟩) q cb)/\TabC W g (o+I*8) (B.head x) (.slice K X p):=by
 obtain ⟨Y,N,F⟩:=c.falls;have C:=c.par_has e;have m:(B.kids (B.par x)).idxOf x<(B.kids (B.par x)).length:=List.idxOf_lt_length_of_mem e;obtain ⟨g,o,cb,E,J,M,hg,T⟩:=R.item C _ m;have U:(B.kids (B.par x))[(B.kids (B.par x)).idxOf x]=x:=List.getElem_idxOf m;have Q:=World.block_lt_of_cell? A _ d;obtain ⟨K,p,P,_,_⟩:=Rf (R x (.inr e));rw [U,P] at T;refine ⟨qQg ⟨G,0,none⟩ B V (B.par x),g,o,_,cb,K,(B.kids x).length,p,(B.kids (B.par x)).idxOf x,m,J,M,fun W H=>?_⟩;have j:qY8 (·<A.heap.size) W V B:=R.agree (fun b d=>H.block b d);have v:W.cell? ⟨G,0,none⟩=some (V (-1)):=(H.cells _ _ Q).trans d;have z:=qJl (box:=⟨G,0,none⟩) c F S x (N+1) (-1) W j (.inl rfl) (by omega) (j.cell c v (.inl rfl));have O:qQg ⟨G,0,none⟩ B V (-1)=⟨G,0,none⟩:=by unfold qQg;rw [if_pos rfl]
 rw [qDd c F (Nat.lt_succ_self N) e,O] at z;refine ⟨z,by rw [j.cell c v C,E],?_⟩;exact ⟨(H.cells g _ hg).trans T.node,(H.cells g _ hg).trans T.role,(H.cells g _ hg).trans T.name,(H.cells g _ hg).trans T.about,(H.cells g _ hg).trans T.level,(H.cells g _ hg).trans T.checked,(H.cells g _ hg).trans T.off,(H.cells g _ hg).trans T.kids⟩
end Go.Proofs.YthbhcdbedfimhaaGreatDoor
namespace Go.Proofs.YthbhcdbedfimhaaGreatDoor
variable {x:Evt} {h:Hd} {n:Int} {f:Nat} {b r s:Txt}
theorem jQo:∀ (l r:Txt) (A:Nat),d.parseUint10 A (l++r)=match d.parseUint10 A l with
 | .ok a=>d.parseUint10 a r
 | d.NumEnd.syntax=>d.NumEnd.syntax
 | .range=>.range:=by
 intro l;induction l with
 | nil=>intro r A;simp [d.parseUint10]
 | cons c l I=>
   intro r A;rw [List.cons_append,d.parseUint10,d.parseUint10];split
   ·split
    ·rfl
    ·split
     ·rfl
     ·exact I r _
   ·rfl
theorem zKw {d:Nat} (h:d<10):(UInt8.ofNat (48+d)).toNat=48+d:=by
 rw [UInt8.toNat_ofNat'];exact Nat.mod_eq_of_lt (by omega)
theorem zXn:∀ (u:Nat) (c:UInt8),c∈Lib.decDigits u->48<=c.toNat/\c.toNat<=57:=by
 intro u;induction u using Nat.strongRecOn with
 | ind u I=>
   intro c H;rw [Lib.decDigits] at H;split at H
   ·rename_i h;rw [List.mem_singleton.1 H,zKw h];omega
   ·rename_i h;rcases List.mem_append.1 H with H | H
    ·exact I (u / 10) (by omega) c H
    ·rw [List.mem_singleton.1 H,zKw (Nat.mod_lt _ (by decide))];omega
theorem dec_ne (u:Nat):Lib.decDigits u≠[]:=by
 intro h;have:=Lib.decDigits_length u;rw [h] at this;have:=Lib.nDigits_pos u;simp at *
 omega
theorem zF6:∀ (u:Nat),u<18446744073709551616->Lib.parseUint10 0 (Lib.decDigits u)=.ok u:=by
 intro u;induction u using Nat.strongRecOn with
 | ind u I=>
   intro H;rw [Lib.decDigits];split
   ·rename_i h;rw [Lib.parseUint10,zKw h,if_pos (by omega),if_neg (by omega),if_neg (by omega),Lib.parseUint10];congr 1;omega
   ·rename_i h;rw [jQo,I (u / 10) (by omega) (by omega)];simp only;rw [Lib.parseUint10,zKw (Nat.mod_lt _ (by decide)),if_pos (by omega),if_neg (by omega),if_neg (by omega),Lib.parseUint10];congr 1;omega
theorem jZg {u:Nat} (H:u<18446744073709551616):Lib.parseMag (Lib.decDigits u)=.ok u:=by
 rw [Lib.parseMag,if_neg (dec_ne u),zF6 u H]
def I64 (n:Int):Prop:=-9223372036854775808<=n/\n<=9223372036854775807
theorem zFb (h:I64 n):Lib.atoiAll (Lib.itoa n)=.ok n:=by
 obtain ⟨d,g⟩:=h;unfold Lib.itoa;split
 ·rename_i H;rw [Lib.atoiAll_minus,jZg (by omega),Lib.signed,if_neg (by omega)];congr 1;omega
 ·rename_i H;cases e:Lib.decDigits n.toNat with
  | nil=>exact absurd e (dec_ne _)
  | cons c r=>
    have j:=zXn n.toNat c (by rw [e];simp);rw [Lib.atoiAll_plain c r (by omega) (by omega),<- e,jZg (by omega),Lib.signless,if_neg (by omega)];congr 1;omega
theorem itoa_sp (n:Int) (c:UInt8) (H:c∈Lib.itoa n):(c != 32)=true:=by
 have d:∀ u,c∈Lib.decDigits u->(c != 32)=true:=fun u h=>by
  have:=zXn u c h;simp only [bne_iff_ne,ne_eq];rintro rfl;simp at this
 unfold Lib.itoa at H;split at H
 ·rcases List.mem_cons.1 H with rfl | h
  ·rfl
  ·exact d _ h
 ·exact d _ H
theorem zZv {k:Nat} :∀ {u:Nat},u<10 ^ (k+1)->Lib.nDigits u<=k+1:=by
 induction k with
 | zero=>intro u h;rw [Lib.nDigits_small (by simpa using h)];omega
 | succ k I=>
   intro u h;by_cases H:u<10
   ·rw [Lib.nDigits_small H];omega
   ·rw [Lib.nDigits_big H];have:=I (u:=u / 10) (by rw [Nat.pow_succ] at h;omega);omega
theorem qHe (h:I64 n):(Lib.itoa n).length<=20:=by
 obtain ⟨H,c⟩:=h;unfold Lib.itoa;split
 ·rw [Zm,Lib.decDigits_length];have:=zZv (k:=18) (u:=n.natAbs) (by omega);omega
 ·rw [Lib.decDigits_length];have:=zZv (k:=18) (u:=n.toNat) (by omega);omega
def numB (n:Int):Txt:=Lib.itoa n++[32]
def qVm (b:Txt):Txt:=b.takeWhile (fun c=>c != 32)
def takeP (b:Txt):Option (Int×Txt):=
 if (qVm b).length<b.length/\(qVm b).length<=20 then
  match Lib.atoiAll (qVm b) with
  | .ok n=>if Lib.itoa n=qVm b then some (n,b.drop ((qVm b).length+1)) else none
  | _=>none
 else none
theorem jQb (n:Int) (r:Txt):qVm (numB n++r)=Lib.itoa n:=by
 unfold qVm numB;rw [List.append_assoc,List.takeWhile_append_of_pos (fun c H=>itoa_sp n c H)];simp
theorem qKd (h:I64 n) (r:Txt):takeP (numB n++r)=some (n,r):=by
 have H:=qHe h;rw [takeP,jQb,if_pos ⟨by simp [numB],H⟩,zFb h];simp only [if_true];congr 2;unfold numB;rw [show (Lib.itoa n).length+1=(Lib.itoa n++[32]).length by simp,List.drop_left]
theorem zDz (b:Txt) (h:(qVm b).length<b.length):b=qVm b++32::b.drop ((qVm b).length+1):=by
 induction b with
 | nil=>simp at h
 | cons c b I=>
   unfold qVm at h ⊢;rw [List.takeWhile_cons] at h ⊢;split
   ·rename_i H;rw [if_pos H] at h;have:=I (by unfold qVm;simpa using h);unfold qVm at this;rw [List.cons_append,Zm,List.drop_succ_cons,<- this]
   ·rename_i H;simp at H;subst H;simp
theorem qJn (h:takeP b=some (n,r)):b=numB n++r/\I64 n:=by
 unfold takeP at h;split at h
 ·rename_i c;split at h
  ·rename_i m d;split at h
   ·rename_i H;simp at h;obtain ⟨rfl,rfl⟩:=h;refine ⟨?_,Lib.atoiAll_bounds d⟩;have:=zDz b c.1;rw [numB,H,List.append_assoc];exact this
   ·cases h
  ·cases h
 ·cases h
def txtB (s:Txt):Txt:=numB s.length++s
def fewP (b:Txt):Option (Nat×Txt):=
 match takeP b with
 | some (n,r)=>if 0<=n/\n<=(r.length:Int) then some (n.toNat,r) else none
 | none=>none
def wordP (b:Txt):Option (Txt×Txt):=
 match fewP b with
 | some (n,r)=>some (r.take n,r.drop n)
 | none=>none
theorem zW5 {n:Nat} (h:I64 n) (H:n<=r.length):fewP (numB n++r)=some (n,r):=by
 rw [fewP,qKd h];simp only;rw [if_pos ⟨by omega,by omega⟩];simp
theorem zXs {n:Nat} (h:fewP b=some (n,r)):b=numB n++r/\n<=r.length:=by
 unfold fewP at h;split at h
 ·rename_i m s c;split at h
  ·rename_i H;simp at h;obtain ⟨rfl,rfl⟩:=h;have:=qJn c;rw [Int.toNat_of_nonneg H.1];exact ⟨this.1,by omega⟩
  ·cases h
 ·cases h
theorem zYv (h:s.length<=9223372036854775807) (r:Txt):wordP (txtB s++r)=some (s,r):=by
 rw [wordP,txtB,List.append_assoc,zW5 ⟨by omega,by omega⟩ (by simp)];simp
theorem zJd (h:wordP b=some (s,r)):b=txtB s++r:=by
 unfold wordP at h;split at h
 ·rename_i n q d;simp at h;obtain ⟨rfl,rfl⟩:=h;obtain ⟨H,c⟩:=zXs d;rw [txtB,List.length_take,Nat.min_eq_left c,List.append_assoc,List.take_append_drop];exact H
 ·cases h
def offB (b:Bool):Int:=if b then 1 else 0
def hdB (h:Hd):Txt:=numB h.node++numB h.role++numB h.level++numB h.checked++numB (offB h.off)++txtB h.name++txtB h.about
mutual
def itemB:It->Txt
 | .mk h k=>hdB h++numB k.length++itemsB k
def itemsB:List It->Txt
 | []=>[]
 | x::l=>itemB x++itemsB l
end
theorem qK1:∀ l:List It,itemsB l=l.flatMap itemB
 | []=>rfl
 | x::l=>by rw [itemsB,List.flatMap_cons,qK1 l]
def manyP (p:Txt->Option (It×Txt)):Nat->Txt->Option (List It×Txt)
 | 0,b=>some ([],b)
 | k+1,b=>match p b with
   | some (x,r)=>match manyP p k r with
     | some (l,s)=>some (x::l,s)
     | none=>none
   | none=>none
theorem qGc (p:Txt->Option (It×Txt)):∀ (k:Nat) (b:Txt),manyP p (k+1) b=match manyP p k b with
 | some (l,r)=>match p r with
   | some (x,s)=>some (l++[x],s)
   | none=>none
 | none=>none:=by
 intro k;induction k with
 | zero=>intro b;simp only [manyP];cases p b with
   | none=>rfl
   | some q=>rfl
 | succ k I=>
   intro b;rw [manyP];cases h:p b with
   | none=>simp only [manyP,h]
   | some q=>
     obtain ⟨x,r⟩:=q;simp only;rw [I r];simp only [manyP,h];cases manyP p k r with
     | none=>rfl
     | some Q=>
       obtain ⟨l,s⟩:=Q;simp only;cases p s with
       | none=>rfl
       | some c=>rfl
def hdP (b:Txt):Option (Hd×Txt):=
 match takeP b with
 | none=>none
 | some (node,b)=>match takeP b with
   | none=>none
   | some (role,b)=>match takeP b with
     | none=>none
     | some (level,b)=>match takeP b with
       | none=>none
       | some (checked,b)=>match takeP b with
         | none=>none
         | some (off,b)=>if 0<=off/\off<=1 then
           match wordP b with
           | none=>none
           | some (name,b)=>match wordP b with
             | none=>none
             | some (about,b)=>some (⟨node,role,name,about,level,checked,decide (off=1)⟩,b)
           else none
def qXr:Nat->Txt->Option (It×Txt)
 | 0,_=>none
 | f+1,b=>match hdP b with
   | none=>none
   | some (h,b)=>match fewP b with
     | none=>none
     | some (n,b)=>match manyP (qXr f) n b with
       | none=>none
       | some (l,r)=>some (.mk h l,r)
def HdOk (h:Hd):Prop:=I64 h.node/\I64 h.role/\I64 h.level/\I64 h.checked/\h.name.length<=9223372036854775807/\h.about.length<=9223372036854775807
theorem zV2 (b:Bool):I64 (offB b)/\0<=offB b/\offB b<=1/\decide (offB b=1)=b:=by cases b <;> (unfold offB I64;simp)
theorem hdP_hd (k:HdOk h) (r:Txt):hdP (hdB h++r)=some (h,r):=by
 obtain ⟨K,c,d,e,g,j⟩:=k;obtain ⟨o1,o2,o,O⟩:=zV2 h.off;unfold hdP hdB;simp only [List.append_assoc];simp only [qKd K,qKd c,qKd d,qKd e,qKd o1,if_pos (And.intro o2 o),zYv g,zYv j,O]
theorem hdP_back (e:hdP b=some (h,r)):b=hdB h++r/\I64 h.node/\I64 h.role/\I64 h.level/\I64 h.checked:=by
 unfold hdP at e;split at e
 ·cases e
 ·rename_i q;split at e
  ·cases e
  ·rename_i u;split at e
   ·cases e
   ·rename_i v;split at e
    ·cases e
    ·rename_i z;split at e
     ·cases e
     ·rename_i o M C;split at e
      ·rename_i N;split at e
       ·cases e
       ·rename_i E;split at e
        ·cases e
        ·rename_i F;simp at e;obtain ⟨rfl,rfl⟩:=e;obtain ⟨A,I⟩:=qJn q;obtain ⟨c,G⟩:=qJn u;obtain ⟨d,J⟩:=qJn v;obtain ⟨g,K⟩:=qJn z;obtain ⟨j,_⟩:=qJn C;have m:=zJd E;have p:=zJd F;refine ⟨?_,I,G,J,K⟩;have H:offB (decide (o=1))=o:=by
          unfold offB;by_cases H:o=1
          ·simp [H]
          ·simp [H];omega
         unfold hdB;simp only [H,List.append_assoc];rw [<- p,<- m,<- j,<- g,<- d,<- c,<- A]
      ·cases e
mutual
def qHx:It->Nat
 | .mk _ k=>qFk k+1
def qFk:List It->Nat
 | []=>0
 | x::l=>max (qHx x) (qFk l)
end
mutual
def ItOk:It->Prop
 | .mk h k=>HdOk h/\k.length<=9223372036854775807/\zYn k
def zYn:List It->Prop
 | []=>True
 | x::l=>ItOk x/\zYn l
end
theorem zDu:∀ {l:List It},zYn l↔∀ x∈l,ItOk x:=by
 intro l;induction l with
 | nil=>simp [zYn]
 | cons y l I=>rw [zYn,I];simp
theorem zFz (x:It):1<=(itemB x).length:=by
 cases x;simp [itemB,hdB,numB];omega
theorem zHr (l:List It):l.length<=(itemsB l).length:=by
 induction l with
 | nil=>simp
 | cons x l I=>
   rw [itemsB,Zj,Zm];have:=zFz x;omega
theorem zWy (h:∀ x r,qHx x<=f->ItOk x->qXr f (itemB x++r)=some (x,r)):∀ (l:List It) (r:Txt),qFk l<=f->zYn l->manyP (qXr f) l.length (itemsB l++r)=some (l,r):=by
 intro l;induction l with
 | nil=>intro r _ _;rfl
 | cons x l I=>
   intro r d H;rw [qFk] at d;rw [zYn] at H;rw [itemsB,Zm,manyP,List.append_assoc,h x _ (by omega) H.1];simp only;rw [I r (by omega) H.2]
theorem zH3:∀ (f:Nat) (x:It) (r:Txt),qHx x<=f->ItOk x->qXr f (itemB x++r)=some (x,r):=by
 intro f;induction f with
 | zero=>intro x r H _;cases x;rw [qHx] at H;omega
 | succ f I=>
   intro x r H c;obtain ⟨h,k⟩:=x;rw [qHx] at H;rw [ItOk] at c;rw [qXr,itemB,List.append_assoc,List.append_assoc,hdP_hd c.1];simp only;rw [zW5 ⟨by omega,by omega⟩ (by have:=zHr k;rw [Zj];omega)];simp only;rw [zWy I k r (by omega) c.2.2]
theorem zB7 {p:Txt->Option (It×Txt)} (h:∀ b x r,p b=some (x,r)->b=itemB x++r):∀ (n:Nat) (b:Txt) (l:List It) (r:Txt),manyP p n b=some (l,r)->b=itemsB l++r/\l.length=n:=by
 intro n;induction n with
 | zero=>intro b l r e;simp only [manyP,Option.some.injEq,Prod.mk.injEq] at e;obtain ⟨rfl,rfl⟩:=e;exact ⟨rfl,rfl⟩
 | succ n I=>
   intro b l r e;rw [manyP] at e;split at e
   ·rename_i x q d;split at e
    ·rename_i g s H;simp only [Option.some.injEq,Prod.mk.injEq] at e;obtain ⟨rfl,rfl⟩:=e;obtain ⟨E,c⟩:=I _ _ _ H;refine ⟨?_,by rw [Zm,c]⟩;rw [itemsB,List.append_assoc,<- E];exact h _ _ _ d
    ·cases e
   ·cases e
theorem zHk:∀ (f:Nat) (b:Txt) (x:It) (r:Txt),qXr f b=some (x,r)->b=itemB x++r:=by
 intro f;induction f with
 | zero=>intro b x r h;cases h
 | succ f I=>
   intro b x r e;rw [qXr] at e;split at e
   ·cases e
   ·rename_i H;split at e
    ·cases e
    ·rename_i d;split at e
     ·cases e
     ·rename_i g;simp only [Option.some.injEq,Prod.mk.injEq] at e;obtain ⟨rfl,rfl⟩:=e;obtain ⟨E,c⟩:=zB7 I _ _ _ _ g;rw [itemB,c,List.append_assoc,List.append_assoc,<- E,<- (zXs d).1];exact (hdP_back H).1
def evB (e:Evt):Txt:=numB e.kind++numB e.node++numB e.dest++numB e.spot++itemB e.item
def evsB (l:List Evt):Txt:=l.flatMap evB
def evP (f:Nat) (b:Txt):Option (Evt×Txt):=
 match takeP b with
 | none=>none
 | some (kind,b)=>match takeP b with
   | none=>none
   | some (node,b)=>match takeP b with
     | none=>none
     | some (dest,b)=>match takeP b with
       | none=>none
       | some (spot,b)=>match qXr f b with
         | none=>none
         | some (x,r)=>some (⟨kind,node,dest,spot,x⟩,r)
def EvOk (e:Evt):Prop:=I64 e.kind/\I64 e.node/\I64 e.dest/\I64 e.spot/\ItOk e.item
theorem evP_ev {e:Evt} (hd:qHx e.item<=f) (k:EvOk e) (r:Txt):evP f (evB e++r)=some (e,r):=by
 obtain ⟨K,c,d,g,j⟩:=k;unfold evP evB;simp only [List.append_assoc];simp only [qKd K,qKd c,qKd d,qKd g,zH3 f _ _ hd j]
theorem evP_back (e:evP f b=some (x,r)):b=evB x++r:=by
 unfold evP at e;split at e
 ·cases e
 ·rename_i H;split at e
  ·cases e
  ·rename_i c;split at e
   ·cases e
   ·rename_i d;split at e
    ·cases e
    ·rename_i g;split at e
     ·cases e
     ·rename_i j;simp at e;obtain ⟨rfl,rfl⟩:=e;unfold evB;simp only [List.append_assoc];rw [<- zHk _ _ _ _ j,<- (qJn g).1,<- (qJn d).1,<- (qJn c).1,<- (qJn H).1]
theorem zDt (e:evP f b=some (x,r)):r.length<b.length:=by
 rw [evP_back e,Zj];simp [evB,numB];omega
def evsP (f:Nat):Nat->Txt->Option (List Evt)
 | _,[]=>some []
 | 0,_::_=>none
 | g+1,b=>match evP f b with
   | none=>none
   | some (e,r)=>match evsP f g r with
     | none=>none
     | some l=>some (e::l)
theorem zDq:∀ (g G:Nat) (b:Txt),b.length<=g->b.length<=G->evsP f g b=evsP f G b:=by
 intro g;induction g with
 | zero=>
   intro G b h _;obtain rfl:b=[]:=by cases b with
    | nil=>rfl
    | cons=>simp at h
   cases G <;> rfl
 | succ g I=>
   intro G b h H;cases b with
   | nil=>cases G <;> rfl
   | cons c b=>
     cases G with
     | zero=>simp at H
     | succ G=>
       simp only [evsP];cases e:evP f (c::b) with
       | none=>rfl
       | some q=>
         obtain ⟨x,r⟩:=q;have:=zDt e;simp only;rw [I G r (by simp at *;omega) (by simp at *;omega)]
def qYn (f:Nat) (b:Txt):Option (List Evt):=evsP f b.length b
theorem zHg (f:Nat):qYn f []=some []:=rfl
theorem qB1 (h:b≠[]):qYn f b=match evP f b with
 | none=>none
 | some (e,r)=>match qYn f r with
   | none=>none
   | some l=>some (e::l):=by
 cases b with
 | nil=>exact absurd rfl h
 | cons c b=>
   unfold qYn;simp only [Zm,evsP];cases e:evP f (c::b) with
   | none=>rfl
   | some q=>
     obtain ⟨x,r⟩:=q;have:=zDt e;simp only;rw [zDq b.length r.length r (by simp at this;omega) (Zb _)]
theorem evB_ne (e:Evt) (r:Txt):evB e++r≠[]:=by
 simp [evB,numB]
theorem zGq:∀ (l:List Evt),(∀ e∈l,qHx e.item<=f/\EvOk e)->qYn f (evsB l)=some l:=by
 intro l;induction l with
 | nil=>intro _;rfl
 | cons e l I=>
   intro h;have H:=h e (by simp);unfold evsB;rw [List.flatMap_cons,qB1 (evB_ne _ _),evP_ev H.1 H.2];simp only;rw [show l.flatMap evB=evsB l from rfl,I (fun x c=>h x (by simp [c]))]
theorem evsB_app (a b:List Evt):evsB (a++b)=evsB a++evsB b:=by simp [evsB]
structure Qs where
 kind:Int
 node:Int
 chg:Chg
open Classical in
noncomputable def evsOf (a b:List It):List Evt:=if AllM a b then b.map (fun x=>⟨5,0,0,0,x⟩) else (evsM a b).map fun e=>{ e with item:=.mk e.item.h [] }
structure Rp where
 err:Int:=0
 n:Int:=0
 text:Txt:=[]
 ev:List Evt:=[]
 items:List It:=[]
open Classical in
noncomputable def doR (E:Eng) (a:Qs):Eng×Rp:=
 if a.kind=1 then (chgE E a.chg,if (qQ8 E.doc a.chg).1=0 then { n:=(qQ8 E.doc a.chg).2.1 } else { err:=(qQ8 E.doc a.chg).1 })
 else if a.kind=2 then (qHd E,{ n:=qVf E.memos E.dirty (qB2 E.doc),ev:=evsOf E.told (qZt E.doc) })
 else (E,if a.kind=5 then { items:=E.told }
  else if a.kind=3∨a.kind=4 then
   if isM E.doc a.node false then if a.kind=4 then { n:=qQd E.doc a.node,text:=(kOf (qQd E.doc a.node)).name } else { text:=(qJp E.doc (qQw E.doc) a.node).name }
   else { err:=6 }
  else { err:=1 })
noncomputable def playR:List Qs->Eng->Eng×List Rp
 | [],E=>(E,[])
 | a::l,E=>((playR l (doR E a).1).1,(doR E a).2::(playR l (doR E a).1).2)
theorem zX7 {E:Eng} (h:EngOk E) (a:Qs):EngOk (doR E a).1:=by
 unfold doR;split
 ·exact zYh h a.chg
 ·split
  ·exact qK8 h
  ·exact h
theorem zXz:∀ (l:List Qs) (E:Eng),(playR l E).2.length=l.length
 | [],_=>rfl
 | _::l,_=>congrArg (·+1) (zXz l _)
