/- diff.same: walked. (Printed by wip/tools/diffsame.py.) -/
import Derived.Test.YtkhkbifdakikcaaGreatDoorDiffOfM
import Derived.Lib.AtoiAllCases
import Derived.Lib.ItoaLen
set_option maxRecDepth 100000
set_option maxHeartbeats 4000000
namespace Go.Proofs.YtkhkbifdakikcaaGreatDoor
open Go.RowKit
variable {B t:Fl} {x:Int} {evs:List Evt} {l:List Int} {a b:List It} {D b1 b2 base i k o1 o2:Nat} {y:Value} {w0:WP} {w:World}
def zKn (id:Nat):Code->Option (Array Oper)
 | .region k ops _=>if k=id then some ops else none
 | .seq a b=>(zKn id a).or (zKn id b)
 | .cond _ a b=>(zKn id a).or (zKn id b)
 | .block _ a=>zKn id a
 | .loop a=>zKn id a
 | .scope a=>zKn id a
 | _=>none
theorem qV5 {x:Option (Array Oper)} {f:Array Oper->Bool} (h:x.map f=some true) {o:Array Oper} (e:x=some o):f o=true:=by
 rw [e] at h;exact Option.some.inj h
theorem qXf:(Tryz.f61.body.bind (zKn 1)).map (fun o=>planA .any o (List.range 76) [] [])=some true:=by kernel_rfl
def SmC (w:World) (b1 o1 b2 o2:Nat) (x y:Hd):Prop:=∀ w',Bel w w'->w'.cell? ⟨b1,o1,none⟩=some (.int .i64 x.node)/\w'.cell? ⟨b2,o2,none⟩=some (.int .i64 y.node)/\w'.cell? ⟨b1,o1+1,none⟩=some (.int .i64 x.role)/\w'.cell? ⟨b2,o2+1,none⟩=some (.int .i64 y.role)/\w'.cell? ⟨b1,o1+2,none⟩=some (.string ⟨x.name.toArray⟩)/\w'.cell? ⟨b2,o2+2,none⟩=some (.string ⟨y.name.toArray⟩)/\w'.cell? ⟨b1,o1+3,none⟩=some (.string ⟨x.about.toArray⟩)/\w'.cell? ⟨b2,o2+3,none⟩=some (.string ⟨y.about.toArray⟩)/\w'.cell? ⟨b1,o1+4,none⟩=some (.int .i64 x.level)/\w'.cell? ⟨b2,o2+4,none⟩=some (.int .i64 y.level)/\w'.cell? ⟨b1,o1+5,none⟩=some (.int .i64 x.checked)/\w'.cell? ⟨b2,o2+5,none⟩=some (.int .i64 y.checked)/\w'.cell? ⟨b1,o1+6,none⟩=some (.bool x.off)/\w'.cell? ⟨b2,o2+6,none⟩=some (.bool y.off)
theorem same_0 (X:Int) (r:Int) (m:Txt) (d:Txt) (g:Int) (f:Int) (o:Bool) (Y:Int) (u:Int) (q:Txt) (j:Txt) (p:Int) (n:Int) (s:Bool) (h:SmC w b1 o1 b2 o2 ⟨X,r,m,d,g,f,o⟩ ⟨Y,u,q,j,p,n,s⟩) (e:(X==Y)=false) :
 Calls Tryz.prog 61 #[.pointer (some ⟨b1,o1,none⟩),.pointer (some ⟨b2,o2,none⟩)] w (Rb (.bool false) w):=by
 simp only [SmC] at h;have C:=lH h;clear h;go_enter Tryz.func61,Tryz.ntmps61
 go_upto_region 1 with fail
 refine qQ6 (List.range 76) [] [] (fun _ W=>Bel w W) (by kernel_rfl) (qV5 qXf (by kernel_rfl)) (Br w).drew ?_;simp only [pickL,List.map_nil,List.range,List.range.loop,List.filterMap_cons,List.filterMap_nil];iterate 76 (first
 | (refine qZp.cons (fun _=>Says.skip ?_) ?_;rfl;simp only [Act.put,Zh,Zf,Zg])
 | (refine qZp.cons (v:=?_) (fun _=>Says.plain ?_ ?_) ?_;rotate_left;rfl;(intro W S;obtain ⟨P,Q,v,I,z,J,A,K,E,M,F,N,G,O⟩:=C.o W S;go_simp;with_reducible rfl);simp only [Act.put,Zh,Zf,Zg]))
 refine qZp.nil ⟨by simp,trivial,fun U R H=>?_⟩;simp only [List.foldl_nil];have c:=lH H;clear H;go_wp2;go_ret;exact ⟨rfl,c.o⟩
theorem same_1 (X:Int) (r:Int) (m:Txt) (d:Txt) (g:Int) (f:Int) (o:Bool) (Y:Int) (q:Txt) (j:Txt) (p:Int) (n:Int) (s:Bool) (h:SmC w b1 o1 b2 o2 ⟨X,r,m,d,g,f,o⟩ ⟨X,Y,q,j,p,n,s⟩) (e:(r==Y)=false) :
 Calls Tryz.prog 61 #[.pointer (some ⟨b1,o1,none⟩),.pointer (some ⟨b2,o2,none⟩)] w (Rb (.bool false) w):=by
 simp only [SmC] at h;have C:=lH h;clear h;go_enter Tryz.func61,Tryz.ntmps61
 go_upto_region 1 with fail
 refine qQ6 (List.range 76) [] [] (fun _ W=>Bel w W) (by kernel_rfl) (qV5 qXf (by kernel_rfl)) (Br w).drew ?_;simp only [pickL,List.map_nil,List.range,List.range.loop,List.filterMap_cons,List.filterMap_nil];iterate 76 (first
 | (refine qZp.cons (fun _=>Says.skip ?_) ?_;rfl;simp only [Act.put,Zh,Zf,Zg])
 | (refine qZp.cons (v:=?_) (fun _=>Says.plain ?_ ?_) ?_;rotate_left;rfl;(intro W S;obtain ⟨P,Q,u,G,v,I,z,J,A,K,E,M,F,N⟩:=C.o W S;go_simp;with_reducible rfl);simp only [Act.put,Zh,Zf,Zg]))
 refine qZp.nil ⟨by simp,trivial,fun U O H=>?_⟩;simp only [List.foldl_nil];have c:=lH H;clear H;go_wp2;go_ret;exact ⟨rfl,c.o⟩
theorem same_2 (n:Int) (r:Int) (X:Txt) (d:Txt) (g:Int) (f:Int) (o:Bool) (Y:Txt) (j:Txt) (p:Int) (m:Int) (q:Bool) (h:SmC w b1 o1 b2 o2 ⟨n,r,X,d,g,f,o⟩ ⟨n,r,Y,j,p,m,q⟩) (e:(X==Y)=false) :
 Calls Tryz.prog 61 #[.pointer (some ⟨b1,o1,none⟩),.pointer (some ⟨b2,o2,none⟩)] w (Rb (.bool false) w):=by
 simp only [SmC] at h;have C:=lH h;clear h;go_enter Tryz.func61,Tryz.ntmps61
 go_upto_region 1 with fail
 refine qQ6 (List.range 76) [] [] (fun _ W=>Bel w W) (by kernel_rfl) (qV5 qXf (by kernel_rfl)) (Br w).drew ?_;simp only [pickL,List.map_nil,List.range,List.range.loop,List.filterMap_cons,List.filterMap_nil];iterate 76 (first
 | (refine qZp.cons (fun _=>Says.skip ?_) ?_;rfl;simp only [Act.put,Zh,Zf,Zg])
 | (refine qZp.cons (v:=?_) (fun _=>Says.plain ?_ ?_) ?_;rotate_left;rfl;(intro W S;obtain ⟨P,Q,s,F,u,G,v,I,z,J,A,K,E,M⟩:=C.o W S;go_simp;with_reducible rfl);simp only [Act.put,Zh,Zf,Zg]))
 refine qZp.nil ⟨by simp,trivial,fun U N H=>?_⟩;simp only [List.foldl_nil];have c:=lH H;clear H;go_wp2;go_ret;exact ⟨rfl,c.o⟩
theorem same_3 (n:Int) (r:Int) (m:Txt) (X:Txt) (f:Int) (d:Int) (o:Bool) (Y:Txt) (j:Int) (g:Int) (p:Bool) (h:SmC w b1 o1 b2 o2 ⟨n,r,m,X,f,d,o⟩ ⟨n,r,m,Y,j,g,p⟩) (e:(X==Y)=false) :
 Calls Tryz.prog 61 #[.pointer (some ⟨b1,o1,none⟩),.pointer (some ⟨b2,o2,none⟩)] w (Rb (.bool false) w):=by
 simp only [SmC] at h;have C:=lH h;clear h;go_enter Tryz.func61,Tryz.ntmps61
 go_upto_region 1 with fail
 refine qQ6 (List.range 76) [] [] (fun _ W=>Bel w W) (by kernel_rfl) (qV5 qXf (by kernel_rfl)) (Br w).drew ?_;simp only [pickL,List.map_nil,List.range,List.range.loop,List.filterMap_cons,List.filterMap_nil];iterate 76 (first
 | (refine qZp.cons (fun _=>Says.skip ?_) ?_;rfl;simp only [Act.put,Zh,Zf,Zg])
 | (refine qZp.cons (v:=?_) (fun _=>Says.plain ?_ ?_) ?_;rotate_left;rfl;(intro W S;obtain ⟨P,Q,q,E,s,F,u,G,v,I,z,J,A,K⟩:=C.o W S;go_simp;with_reducible rfl);simp only [Act.put,Zh,Zf,Zg]))
 refine qZp.nil ⟨by simp,trivial,fun U M H=>?_⟩;simp only [List.foldl_nil];have c:=lH H;clear H;go_wp2;go_ret;exact ⟨rfl,c.o⟩
theorem same_4 (n:Int) (r:Int) (m:Txt) (X:Txt) (c:Int) (f:Int) (o:Bool) (Y:Int) (g:Int) (j:Bool) (h:SmC w b1 o1 b2 o2 ⟨n,r,m,X,c,f,o⟩ ⟨n,r,m,X,Y,g,j⟩) (e:(c==Y)=false) :
 Calls Tryz.prog 61 #[.pointer (some ⟨b1,o1,none⟩),.pointer (some ⟨b2,o2,none⟩)] w (Rb (.bool false) w):=by
 simp only [SmC] at h;have C:=lH h;clear h;go_enter Tryz.func61,Tryz.ntmps61
 go_upto_region 1 with fail
 refine qQ6 (List.range 76) [] [] (fun _ W=>Bel w W) (by kernel_rfl) (qV5 qXf (by kernel_rfl)) (Br w).drew ?_;simp only [pickL,List.map_nil,List.range,List.range.loop,List.filterMap_cons,List.filterMap_nil];iterate 76 (first
 | (refine qZp.cons (fun _=>Says.skip ?_) ?_;rfl;simp only [Act.put,Zh,Zf,Zg])
 | (refine qZp.cons (v:=?_) (fun _=>Says.plain ?_ ?_) ?_;rotate_left;rfl;(intro W S;obtain ⟨p,Q,P,A,q,E,s,F,u,G,v,I,z,J⟩:=C.o W S;go_simp;with_reducible rfl);simp only [Act.put,Zh,Zf,Zg]))
 refine qZp.nil ⟨by simp,trivial,fun U K H=>?_⟩;simp only [List.foldl_nil];have d:=lH H;clear H;go_wp2;go_ret;exact ⟨rfl,d.o⟩
theorem same_5 (n:Int) (r:Int) (m:Txt) (X:Txt) (d:Int) (c:Int) (o:Bool) (Y:Int) (g:Bool) (h:SmC w b1 o1 b2 o2 ⟨n,r,m,X,d,c,o⟩ ⟨n,r,m,X,d,Y,g⟩) (e:(c==Y)=false) :
 Calls Tryz.prog 61 #[.pointer (some ⟨b1,o1,none⟩),.pointer (some ⟨b2,o2,none⟩)] w (Rb (.bool false) w):=by
 simp only [SmC] at h;have C:=lH h;clear h;go_enter Tryz.func61,Tryz.ntmps61
 go_upto_region 1 with fail
 refine qQ6 (List.range 76) [] [] (fun _ W=>Bel w W) (by kernel_rfl) (qV5 qXf (by kernel_rfl)) (Br w).drew ?_;simp only [pickL,List.map_nil,List.range,List.range.loop,List.filterMap_cons,List.filterMap_nil];iterate 76 (first
 | (refine qZp.cons (fun _=>Says.skip ?_) ?_;rfl;simp only [Act.put,Zh,Zf,Zg])
 | (refine qZp.cons (v:=?_) (fun _=>Says.plain ?_ ?_) ?_;rotate_left;rfl;(intro W S;obtain ⟨p,Q,P,z,j,A,q,E,s,F,u,G,v,I⟩:=C.o W S;go_simp;with_reducible rfl);simp only [Act.put,Zh,Zf,Zg]))
 refine qZp.nil ⟨by simp,trivial,fun U J H=>?_⟩;simp only [List.foldl_nil];have f:=lH H;clear H;go_wp2;go_ret;exact ⟨rfl,f.o⟩
theorem same_6 (n:Int) (r:Int) (m:Txt) (X:Txt) (d:Int) (c:Int) (o:Bool) (Y:Bool) (h:SmC w b1 o1 b2 o2 ⟨n,r,m,X,d,c,o⟩ ⟨n,r,m,X,d,c,Y⟩) (e:(o==Y)=false) :
 Calls Tryz.prog 61 #[.pointer (some ⟨b1,o1,none⟩),.pointer (some ⟨b2,o2,none⟩)] w (Rb (.bool false) w):=by
 simp only [SmC] at h;have C:=lH h;clear h;go_enter Tryz.func61,Tryz.ntmps61
 go_upto_region 1 with fail
 refine qQ6 (List.range 76) [] [] (fun _ W=>Bel w W) (by kernel_rfl) (qV5 qXf (by kernel_rfl)) (Br w).drew ?_;simp only [pickL,List.map_nil,List.range,List.range.loop,List.filterMap_cons,List.filterMap_nil];iterate 76 (first
 | (refine qZp.cons (fun _=>Says.skip ?_) ?_;rfl;simp only [Act.put,Zh,Zf,Zg])
 | (refine qZp.cons (v:=?_) (fun _=>Says.plain ?_ ?_) ?_;rotate_left;rfl;(intro W S;obtain ⟨p,Q,P,v,g,z,j,A,q,E,s,F,u,G⟩:=C.o W S;go_simp;with_reducible rfl);simp only [Act.put,Zh,Zf,Zg]))
 refine qZp.nil ⟨by simp,trivial,fun U I H=>?_⟩;simp only [List.foldl_nil];have f:=lH H;clear H;go_wp2;go_ret;exact ⟨rfl,f.o⟩
theorem same_7 (n:Int) (r:Int) (m:Txt) (X:Txt) (d:Int) (c:Int) (o:Bool)  (h:SmC w b1 o1 b2 o2 ⟨n,r,m,X,d,c,o⟩ ⟨n,r,m,X,d,c,o⟩) :
 Calls Tryz.prog 61 #[.pointer (some ⟨b1,o1,none⟩),.pointer (some ⟨b2,o2,none⟩)] w (Rb (.bool true) w):=by
 simp only [SmC] at h;have C:=lH h;clear h;go_enter Tryz.func61,Tryz.ntmps61
 go_upto_region 1 with fail
 refine qQ6 (List.range 76) [] [] (fun _ W=>Bel w W) (by kernel_rfl) (qV5 qXf (by kernel_rfl)) (Br w).drew ?_;simp only [pickL,List.map_nil,List.range,List.range.loop,List.filterMap_cons,List.filterMap_nil];iterate 76 (first
 | (refine qZp.cons (fun _=>Says.skip ?_) ?_;rfl;simp only [Act.put,Zh,Zf,Zg])
 | (refine qZp.cons (v:=?_) (fun _=>Says.plain ?_ ?_) ?_;rotate_left;rfl;(intro W S;obtain ⟨p,Q,P,u,f,v,g,z,j,A,q,E,s,F⟩:=C.o W S;go_simp;with_reducible rfl);simp only [Act.put,Zh,Zf,Zg]))
 refine qZp.nil ⟨by simp,trivial,fun U G H=>?_⟩;simp only [List.foldl_nil];have e:=lH H;clear H;go_wp2;go_ret;exact ⟨rfl,e.o⟩
theorem zQy {x y:Hd} {K q:Value} (c:TabC w b1 o1 x K) (d:TabC w b2 o2 y q) :
 Calls Tryz.prog 61 #[.pointer (some ⟨b1,o1,none⟩),.pointer (some ⟨b2,o2,none⟩)] w (Rb (.bool (decide (x=y))) w):=by
 have e:=World.block_lt_of_cell? w _ c.node;have f:=World.block_lt_of_cell? w _ d.node;have h:SmC w b1 o1 b2 o2 x y:=fun W H=>⟨(H.cells b1 _ e).trans c.node,(H.cells b2 _ f).trans d.node,(H.cells b1 _ e).trans c.role,(H.cells b2 _ f).trans d.role,(H.cells b1 _ e).trans c.name,(H.cells b2 _ f).trans d.name,(H.cells b1 _ e).trans c.about,(H.cells b2 _ f).trans d.about,(H.cells b1 _ e).trans c.level,(H.cells b2 _ f).trans d.level,(H.cells b1 _ e).trans c.checked,(H.cells b2 _ f).trans d.checked,(H.cells b1 _ e).trans c.off,(H.cells b2 _ f).trans d.off⟩;clear c d e f;obtain ⟨v,A,u,X,s,r,z⟩:=x;obtain ⟨I,M,G,Y,F,C,J⟩:=y;simp only [Hd.mk.injEq];by_cases E:v=I;case neg=>
  rw [decide_eq_false (fun h=>E h.1)];exact same_0 _ _ _ _ _ _ _ _ _ _ _ _ _ _ h (by simpa using E)
 subst E;by_cases g:A=M;case neg=>
  rw [decide_eq_false (fun h=>g h.2.1)];exact same_1 _ _ _ _ _ _ _ _ _ _ _ _ _ h (by simpa using g)
 subst g;by_cases j:u=G;case neg=>
  rw [decide_eq_false (fun h=>j h.2.2.1)];exact same_2 _ _ _ _ _ _ _ _ _ _ _ _ h (by simpa using j)
 subst j;by_cases m:X=Y;case neg=>
  rw [decide_eq_false (fun h=>m h.2.2.2.1)];exact same_3 _ _ _ _ _ _ _ _ _ _ _ h (by simpa using m)
 subst m;by_cases n:s=F;case neg=>
  rw [decide_eq_false (fun h=>n h.2.2.2.2.1)];exact same_4 _ _ _ _ _ _ _ _ _ _ h (by simpa using n)
 subst n;by_cases o:r=C;case neg=>
  rw [decide_eq_false (fun h=>o h.2.2.2.2.2.1)];exact same_5 _ _ _ _ _ _ _ _ _ h (by simpa using o)
 subst o;by_cases p:z=J;case neg=>
  rw [decide_eq_false (fun h=>p h.2.2.2.2.2.2)];exact same_6 _ _ _ _ _ _ _ _ h (by simpa using p)
 subst p;rw [decide_eq_true ⟨rfl,rfl,rfl,rfl,rfl,rfl,rfl⟩];exact same_7 _ _ _ _ _ _ _ h
def AllAt (base k:Nat) (w:World) (y:Value) (b:List It):Prop:=
 ∃ h ks g v,b=[.mk h ks]/\y=.slice (some ⟨g,0,none⟩) 1 1/\base<=g/\Blk w g ([.int .i64 5,.int .i64 0,.int .i64 0,.int .i64 0]++qQi h v) 84/\ItsK (fun x=>base<=x/\x<w.heap.size) k w v ks
def AllM (a b:List It):Prop:=b.length=1/\(a=[]∨20<(evsM a b).length)
open Classical in
def OfAt (base k:Nat) (w:World) (y:Value) (a b:List It):Prop:=
 if AllM a b then AllAt base k w y b else qQb 12 rdEv base 84 w y (evsM a b)
theorem OfAt.all (h:AllM a b) (q:AllAt base k w y b):OfAt base k w y a b:=by
 unfold OfAt;rw [if_pos h];exact q
theorem OfAt.plain (h:¬ AllM a b) (q:qQb 12 rdEv base 84 w y (evsM a b)):OfAt base k w y a b:=by
 unfold OfAt;rw [if_neg h];exact q
theorem zG7 {w0 W:World} {L:List Int} {S:Int->Sv} {lab:Nat->Int} (m:Wf t) (g:zQ5 t) (f:Fits L t) (T:qQx w0.heap.size W S lab t) (d:Bel w0 W) :
 Dif ⟨w0,fun _=>False,w0⟩ W.heap.size (W.alloc (.cells #[(S (-1)).v,.slice none 0 0] 125)) L t []:=by
 have c:Bel W (W.alloc (.cells #[(S (-1)).v,.slice none 0 0] 125)):=(Br W).alloc _;have H:=Blk.new' W _ rfl #[(S (-1)).v,.slice none 0 0] 125;exact ⟨m,g,f,d.size,Bt d c,⟨S,lab,.slice none 0 0,T.bel c,⟨H.cell 0,H.frozen 0,H.lt,fun n j e=>by
  have:=(T.lt j e).2;exact Nat.lt_irrefl _ this⟩,H.cell 1,H.frozen 1,qQb.nil _ _ _,(fun e=>by cases e),(fun _ _ _ _ e=>by cases e),fun _ h=>h.elim⟩,⟨_,_,H⟩,fun _ h=>h.elim⟩
theorem dif_now {L:List Int} (M:Dif w0 D w L t evs):∃ a n c,w.cell? ⟨D,0,none⟩=some (.slice a n c)/\∀ k d N,Falls t.kids d N->N<k->ItsK (·<w.heap.size) k w (.slice a n c) (itsOf t k (-1)):=by
 obtain ⟨h,f,g,j,m,⟨S,C,O,K,e,r,s,u,v,z,A⟩,p,o⟩:=M;exact ⟨(S (-1)).a,(S (-1)).n,(S (-1)).c,e.cell,fun k d N F q=>(rd_its K.rd h F k (-1) (.inl rfl) (by omega)).mono (fun b H=>H.2)⟩
theorem dif_out {L:List Int} (M:Dif w0 D w L t evs):∃ a c,w.cell? ⟨D,1,none⟩=some (.slice a evs.length c)/\qQb 12 rdEv w0.heap.size 84 w (.slice a evs.length c) evs:=by
 obtain ⟨S,n,o,e,f,d,g,K,h,j,m⟩:=M.st;obtain ⟨a,c,rfl,_,_⟩:=Rf K.read;exact ⟨a,c,d,K⟩
theorem qFz {L:List Int} (M:Dif w0 D w L t evs) {v:Value} {Q:Nat->Prop} (h:qQa 1 qQf Q w0.wp v l) (c:∀ b,Q b->w0.P b):qQa 1 qQf (·<w.heap.size) w v l:=
 (qQa.agree h (fun b H=>(M.kept b (c b H)).1) (fun _ _ _ h=>h)).mono (fun b H=>(M.kept b (c b H)).2) (fun _ _ _ h=>h)
theorem dif_lone {L:List Int} (M:Dif w0 D w L t evs) (q:L.length<=1000000000) (j:Has t x) {v K:Value} {d:List Int} {m g o:Nat} (s:qKn m w v d) (hm:m<=w.heap.size) (f:∀ n,n∈d↔Has B n)
 (T:TabC w g o (t.head x) K) (I:∀ k c N,Falls t.kids c N->N<k->ItsK (·<w.heap.size) k w K (itsOf t k x)) :
 ∃ r,Calls Tryz.prog 58 #[.pointer (some ⟨g,o,none⟩),v] w (Rb (.bool r) w)/\(r=true↔∀ y,Reach t.kids x y->¬ Has B y):=by
 obtain ⟨c,N,F⟩:=M.wf.falls;have e:nodesL [It.mk (t.head x) (itsOf t (N+1) x)]=zK5 t (N+1) x:=by
  rw [nodesL,nodesI,nodesL,List.append_nil,qD6 M.wf M.heads,M.heads x j];rfl
 refine ⟨_,zQq s hm T (I (N+1) c N F (Nat.lt_succ_self N)) (by rw [e];exact Za (zB9 M.wf M.fits F (Nat.lt_succ_self N) j) q),?_⟩;rw [e,Bool.not_eq_true',List.any_eq_false];constructor
 ·intro h y H p;have:=h y ((zXj F (Nat.lt_succ_self N)).2 H);simp at this;exact this ((f y).2 p)
 ·intro h y H;have:=h y ((zXj F (Nat.lt_succ_self N)).1 H);rw [<- f] at this;simpa using this
theorem zWz (B:Fl) (t:Fl) (h:i<l.length):lonesF B (l.drop i) t=lonesF B (l[i]::l.drop (i+1)) t:=by rw [List.drop_eq_getElem_cons h]
theorem zB2 (B:Fl) (t:Fl) (h:i<l.length):dropsF B (l.drop i) t=dropsF B (l[i]::l.drop (i+1)) t:=by rw [List.drop_eq_getElem_cons h]
theorem zW7 (B:Fl) (t:Fl) (h:i<l.length):tellsF B (l.drop i) t=tellsF B (l[i]::l.drop (i+1)) t:=by rw [List.drop_eq_getElem_cons h]
theorem zKf {W:World} {h:Hd} {s:List It} {S:List Nat} (o:OwnT base k W y [It.mk h s] S):∃ g O C K d,y=.slice (some ⟨g,O,none⟩) 1 C/\1<=C/\C<=9223372036854775807/\TabC W g O h (.slice K s.length d)/\ItsK (fun x=>base<=x/\x<W.heap.size) k W (.slice K s.length d) s:=by
 obtain ⟨g,O,C,v,j,rfl,e,E,f,_,I⟩:=(o.its.mono (fun b H=>o.lt b H)).item 0 (by simp);obtain ⟨K,d,rfl,_,_⟩:=Rf I.kidsAt;have c:=I;simp only [Nat.zero_mul,Nat.add_zero,List.getElem_cons_zero] at c;exact ⟨g,O,C,K,d,e,E,f,⟨c.node,c.role,c.name,c.about,c.level,c.checked,c.off,c.kids⟩,c.kidsAt.le (Nat.le_succ _)⟩
theorem rd_find {A:World} {V:Int->Value} {G:Nat} (R:qYw (·<A.heap.size) A V B) (c:Wf B) (M:zQ5 B) (d:A.cell? ⟨G,0,none⟩=some (V (-1))) (e:Has B x) :
 ∃ (p:Addr) (g o n cb:Nat) (K:Option Addr) (P m:Nat) (I:Nat),I<n/\n<=cb/\cb<=9223372036854775807/\∀ W,Bel A W->Calls Tryz.prog 57 #[.pointer (some ⟨G,0,none⟩),.int .i64 x] W (Rv (.tuple #[.pointer (some p),.int .i64 (I:Int)]) W)/\W.cell? p=some (.slice (some ⟨g,o,none⟩) n cb)/\TabC W g (o+I*8) (B.head x) (.slice K P m):=by
 obtain ⟨Q,N,F⟩:=c.falls;have s:=c.par_has e;have j:(B.kids (B.par x)).idxOf x<(B.kids (B.par x)).length:=List.idxOf_lt_length_of_mem e;obtain ⟨g,o,cb,E,u,v,hg,H⟩:=R.item s _ j;have O:(B.kids (B.par x))[(B.kids (B.par x)).idxOf x]=x:=List.getElem_idxOf j;have J:=World.block_lt_of_cell? A _ d;obtain ⟨K,m,C,_,_⟩:=Rf (R x (.inr e));rw [O,C] at H;refine ⟨qQg ⟨G,0,none⟩ B V (B.par x),g,o,_,cb,K,(B.kids x).length,m,(B.kids (B.par x)).idxOf x,j,u,v,fun W h=>?_⟩;have f:qYw (·<A.heap.size) W V B:=R.agree (fun b d=>h.block b d);have q:W.cell? ⟨G,0,none⟩=some (V (-1)):=(h.cells _ _ J).trans d;have r:=qJl (box:=⟨G,0,none⟩) c F M x (N+1) (-1) W f (.inl rfl) (by omega) (f.cell c q (.inl rfl));have z:qQg ⟨G,0,none⟩ B V (-1)=⟨G,0,none⟩:=by unfold qQg;rw [if_pos rfl]
 rw [qFr c F (Nat.lt_succ_self N) e,z] at r;refine ⟨r,by rw [f.cell c q s,E],?_⟩;exact ⟨(h.cells g _ hg).trans H.node,(h.cells g _ hg).trans H.role,(h.cells g _ hg).trans H.name,(h.cells g _ hg).trans H.about,(h.cells g _ hg).trans H.level,(h.cells g _ hg).trans H.checked,(h.cells g _ hg).trans H.off,(h.cells g _ hg).trans H.kids⟩
end Go.Proofs.YtkhkbifdakikcaaGreatDoor
namespace Go.Proofs.YtkhkbifdakikcaaGreatDoor
def I64 (n:Int):Prop:=-9223372036854775808<=n/\n<=9223372036854775807
theorem zQ9 {k:Nat}:∀ {u:Nat},u<10 ^ (k+1)->Lib.nDigits u<=k+1:=by
 induction k with
 | zero=>intro u h;rw [Lib.nDigits_small (by simpa using h)];omega
 | succ k I=>
   intro u h;by_cases H:u<10
   ·rw [Lib.nDigits_small H];omega
   ·rw [Lib.nDigits_big H];have:=I (u:=u / 10) (by rw [Nat.pow_succ] at h;omega);omega
theorem zZ3 {n:Int} (h:I64 n):(Lib.itoa n).length<=20:=by
 obtain ⟨H,c⟩:=h;unfold Lib.itoa;split
 ·rw [Zm,Lib.decDigits_length];have:=zQ9 (k:=18) (u:=n.natAbs) (by omega);omega
 ·rw [Lib.decDigits_length];have:=zQ9 (k:=18) (u:=n.toNat) (by omega);omega
def numB (n:Int):Txt:=Lib.itoa n++[32]
def txtB (s:Txt):Txt:=numB s.length++s
def offB (b:Bool):Int:=if b then 1 else 0
def hdB (h:Hd):Txt:=numB h.node++numB h.role++numB h.level++numB h.checked++numB (offB h.off)++txtB h.name++txtB h.about
mutual
def itemB:It->Txt
 | .mk h k=>hdB h++numB k.length++itemsB k
def itemsB:List It->Txt
 | []=>[]
 | x::l=>itemB x++itemsB l
end
theorem qKz:∀ l:List It,itemsB l=l.flatMap itemB
 | []=>rfl
 | x::l=>by rw [itemsB,List.flatMap_cons,qKz l]
def HdOk (h:Hd):Prop:=I64 h.node/\I64 h.role/\I64 h.level/\I64 h.checked/\h.name.length<=9223372036854775807/\h.about.length<=9223372036854775807
theorem zGo (b:Bool):I64 (offB b)/\0<=offB b/\offB b<=1/\decide (offB b=1)=b:=by cases b <;> (unfold offB I64;simp)
mutual
def deepI:It->Nat
 | .mk _ k=>deepL k+1
def deepL:List It->Nat
 | []=>0
 | x::l=>max (deepI x) (deepL l)
end
mutual
def ItOk:It->Prop
 | .mk h k=>HdOk h/\k.length<=9223372036854775807/\zBy k
def zBy:List It->Prop
 | []=>True
 | x::l=>ItOk x/\zBy l
end
theorem zGr:∀ {l:List It},zBy l↔∀ x∈l,ItOk x:=by
 intro l;induction l with
 | nil=>simp [zBy]
 | cons y l I=>rw [zBy,I];simp
def evB (e:Evt):Txt:=numB e.kind++numB e.node++numB e.dest++numB e.spot++itemB e.item
def evsB (l:List Evt):Txt:=l.flatMap evB
def EvOk (e:Evt):Prop:=I64 e.kind/\I64 e.node/\I64 e.dest/\I64 e.spot/\ItOk e.item
theorem evsB_app (a b:List Evt):evsB (a++b)=evsB a++evsB b:=by simp [evsB]
structure Qs where
 kind:Int
 node:Int
 chg:Chg
open Classical in
noncomputable def evsOf (a b:List It):List Evt:=if AllM a b then b.map (fun x=>⟨5,0,0,0,x⟩) else (evsM a b).map fun e=>{ e with item:=.mk e.item.h [] }
structure Rp where
 err:Int:=0
 n:Int:=0
 text:Txt:=[]
 ev:List Evt:=[]
 items:List It:=[]
open Classical in
noncomputable def doR (E:Eng) (a:Qs):Eng×Rp:=
 if a.kind=1 then (chgE E a.chg,if (qQ7 E.doc a.chg).1=0 then { n:=(qQ7 E.doc a.chg).2.1 } else { err:=(qQ7 E.doc a.chg).1 })
 else if a.kind=2 then (qGf E,{ n:=qY2 E.memos E.dirty (qBp E.doc),ev:=evsOf E.told (qJ0 E.doc) })
 else (E,if a.kind=5 then { items:=E.told }
  else if a.kind=3∨a.kind=4 then
   if isM E.doc a.node false then if a.kind=4 then { n:=qQd E.doc a.node,text:=(kOf (qQd E.doc a.node)).name } else { text:=(qJn E.doc (qQv E.doc) a.node).name }
   else { err:=6 }
  else { err:=1 })
noncomputable def playR:List Qs->Eng->Eng×List Rp
 | [],E=>(E,[])
 | a::l,E=>((playR l (doR E a).1).1,(doR E a).2::(playR l (doR E a).1).2)
def zQ3 (a:Qs) (r:Rp):Bool:=a.kind==2||(a.kind==1&&r.err==0)
theorem doR_idle {E:Eng} {a:Qs} (h:zQ3 a (doR E a).2=false):(doR E a).1=E:=by
 unfold zQ3 at h;rw [Bool.or_eq_false_iff,beq_eq_false_iff_ne] at h;unfold doR chgE at *
 by_cases H:a.kind=1
 ·rw [if_pos H] at h ⊢;split <;> simp_all
 ·rw [if_neg H,if_neg h.1]
theorem zFa {E:Eng} (h:EngOk E) (a:Qs):EngOk (doR E a).1:=by
 unfold doR;split
 ·exact zXg h a.chg
 ·split
  ·exact qVc h
  ·exact h
noncomputable def keepR:List Qs->Eng->List Qs×List Rp
 | [],_=>([],[])
 | a::l,E=>if zQ3 a (doR E a).2 then (a::(keepR l (doR E a).1).1,(doR E a).2::(keepR l (doR E a).1).2) else keepR l (doR E a).1
theorem zQg:∀ (l:List Qs) (E:Eng),(playR (keepR l E).1 E).2=(keepR l E).2
 | [],E=>rfl
 | a::l,E=>by
   unfold keepR;cases h:zQ3 a (doR E a).2 with
   | true=>exact congrArg (_::·) (zQg l _)
   | false=>
     rw [if_neg (by simp)];have:=zQg l (doR E a).1;rw [doR_idle h] at this ⊢;exact this
theorem zK0:∀ (l:List Qs) (E:Eng),(playR l E).2.length=l.length
 | [],_=>rfl
 | _::l,_=>congrArg (·+1) (zK0 l _)
