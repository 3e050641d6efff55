/- diff.same: walked. (Printed by wip/tools/diffsame.py.) -/
import Derived.Test.YtklbmkaomojciaaGreatDiffOfM
set_option maxRecDepth 100000
set_option maxHeartbeats 4000000
namespace Go.Proofs.YtklbmkaomojciaaGreat
open Go.RowKit
def zJr (id:Nat):Code->Option (Array Oper)
 | .region k ops _=>if k=id then some ops else none
 | .seq a b=>(zJr id a).or (zJr id b)
 | .cond _ a b=>(zJr id a).or (zJr id b)
 | .block _ a=>zJr id a
 | .loop a=>zJr id a
 | .scope a=>zJr id a
 | _=>none
theorem qVp {x:Option (Array Oper)} {f:Array Oper->Bool} (h:x.map f=some true) {ops:Array Oper} (e:x=some ops):f ops=true:=by
 rw [e] at h
 exact Option.some.inj h
theorem qK7:(Tryz.f134.body.bind (zJr 1)).map (fun ops=>planA .any ops (List.range 76) [] [])=some true:=by kernel_rfl
def SmC (w:World) (b1 o1 b2 o2:Nat) (x y:Hd):Prop:=∀ w',Bel w w'->w'.cell? ⟨b1,o1,none⟩=some (.int .i64 x.node)/\w'.cell? ⟨b2,o2,none⟩=some (.int .i64 y.node)/\w'.cell? ⟨b1,o1+1,none⟩=some (.int .i64 x.role)/\w'.cell? ⟨b2,o2+1,none⟩=some (.int .i64 y.role)/\w'.cell? ⟨b1,o1+2,none⟩=some (.string ⟨x.name.toArray⟩)/\w'.cell? ⟨b2,o2+2,none⟩=some (.string ⟨y.name.toArray⟩)/\w'.cell? ⟨b1,o1+3,none⟩=some (.string ⟨x.about.toArray⟩)/\w'.cell? ⟨b2,o2+3,none⟩=some (.string ⟨y.about.toArray⟩)/\w'.cell? ⟨b1,o1+4,none⟩=some (.int .i64 x.level)/\w'.cell? ⟨b2,o2+4,none⟩=some (.int .i64 y.level)/\w'.cell? ⟨b1,o1+5,none⟩=some (.int .i64 x.checked)/\w'.cell? ⟨b2,o2+5,none⟩=some (.int .i64 y.checked)/\w'.cell? ⟨b1,o1+6,none⟩=some (.bool x.off)/\w'.cell? ⟨b2,o2+6,none⟩=some (.bool y.off)
theorem same_0 {w:World} {b1 o1 b2 o2:Nat} (xn:Int) (xr:Int) (xm:Txt) (xa:Txt) (xl:Int) (xk:Int) (xo:Bool) (yn:Int) (yr:Int) (ym:Txt) (ya:Txt) (yl:Int) (yk:Int) (yo:Bool) (h:SmC w b1 o1 b2 o2 ⟨xn,xr,xm,xa,xl,xk,xo⟩ ⟨yn,yr,ym,ya,yl,yk,yo⟩) (e:(xn==yn)=false) :
 Calls Tryz.prog 134 #[.pointer (some ⟨b1,o1,none⟩),.pointer (some ⟨b2,o2,none⟩)] w (Rb (.bool false) w):=by
 simp only [SmC] at h
 have HC:=lH h
 clear h
 go_enter Tryz.func134,Tryz.ntmps134
 go_upto_region 1 with fail
 refine qZf (List.range 76) [] [] (fun _ w'=>Bel w w') (by kernel_rfl) (qVp qK7 (by kernel_rfl)) (Br w).drew ?_
 simp only [pickL,List.map_nil,List.range,List.range.loop,List.filterMap_cons,List.filterMap_nil]
 iterate 76 (first
 | (refine qZt.cons (fun _=>Says.skip ?_) ?_;rfl;simp only [Act.put,Zh,Zf,Zg])
 | (refine qZt.cons (v:=?_) (fun _=>Says.plain ?_ ?_) ?_;rotate_left;rfl;(intro w' hS;obtain ⟨p0,q0,p1,q1,p2,q2,p3,q3,p4,q4,p5,q5,p6,q6⟩:=HC.o w' hS;go_simp;with_reducible rfl);simp only [Act.put,Zh,Zf,Zg]))
 refine qZt.nil ⟨by simp,trivial,fun U w8 hS8=>?_⟩
 simp only [List.foldl_nil]
 have HB8:=lH hS8
 clear hS8
 go_wp2
 go_ret
 exact ⟨rfl,HB8.o⟩
theorem same_1 {w:World} {b1 o1 b2 o2:Nat} (xn:Int) (xr:Int) (xm:Txt) (xa:Txt) (xl:Int) (xk:Int) (xo:Bool) (yr:Int) (ym:Txt) (ya:Txt) (yl:Int) (yk:Int) (yo:Bool) (h:SmC w b1 o1 b2 o2 ⟨xn,xr,xm,xa,xl,xk,xo⟩ ⟨xn,yr,ym,ya,yl,yk,yo⟩) (e:(xr==yr)=false) :
 Calls Tryz.prog 134 #[.pointer (some ⟨b1,o1,none⟩),.pointer (some ⟨b2,o2,none⟩)] w (Rb (.bool false) w):=by
 simp only [SmC] at h
 have HC:=lH h
 clear h
 go_enter Tryz.func134,Tryz.ntmps134
 go_upto_region 1 with fail
 refine qZf (List.range 76) [] [] (fun _ w'=>Bel w w') (by kernel_rfl) (qVp qK7 (by kernel_rfl)) (Br w).drew ?_
 simp only [pickL,List.map_nil,List.range,List.range.loop,List.filterMap_cons,List.filterMap_nil]
 iterate 76 (first
 | (refine qZt.cons (fun _=>Says.skip ?_) ?_;rfl;simp only [Act.put,Zh,Zf,Zg])
 | (refine qZt.cons (v:=?_) (fun _=>Says.plain ?_ ?_) ?_;rotate_left;rfl;(intro w' hS;obtain ⟨p0,q0,p1,q1,p2,q2,p3,q3,p4,q4,p5,q5,p6,q6⟩:=HC.o w' hS;go_simp;with_reducible rfl);simp only [Act.put,Zh,Zf,Zg]))
 refine qZt.nil ⟨by simp,trivial,fun U w8 hS8=>?_⟩
 simp only [List.foldl_nil]
 have HB8:=lH hS8
 clear hS8
 go_wp2
 go_ret
 exact ⟨rfl,HB8.o⟩
theorem same_2 {w:World} {b1 o1 b2 o2:Nat} (xn:Int) (xr:Int) (xm:Txt) (xa:Txt) (xl:Int) (xk:Int) (xo:Bool) (ym:Txt) (ya:Txt) (yl:Int) (yk:Int) (yo:Bool) (h:SmC w b1 o1 b2 o2 ⟨xn,xr,xm,xa,xl,xk,xo⟩ ⟨xn,xr,ym,ya,yl,yk,yo⟩) (e:(xm==ym)=false) :
 Calls Tryz.prog 134 #[.pointer (some ⟨b1,o1,none⟩),.pointer (some ⟨b2,o2,none⟩)] w (Rb (.bool false) w):=by
 simp only [SmC] at h
 have HC:=lH h
 clear h
 go_enter Tryz.func134,Tryz.ntmps134
 go_upto_region 1 with fail
 refine qZf (List.range 76) [] [] (fun _ w'=>Bel w w') (by kernel_rfl) (qVp qK7 (by kernel_rfl)) (Br w).drew ?_
 simp only [pickL,List.map_nil,List.range,List.range.loop,List.filterMap_cons,List.filterMap_nil]
 iterate 76 (first
 | (refine qZt.cons (fun _=>Says.skip ?_) ?_;rfl;simp only [Act.put,Zh,Zf,Zg])
 | (refine qZt.cons (v:=?_) (fun _=>Says.plain ?_ ?_) ?_;rotate_left;rfl;(intro w' hS;obtain ⟨p0,q0,p1,q1,p2,q2,p3,q3,p4,q4,p5,q5,p6,q6⟩:=HC.o w' hS;go_simp;with_reducible rfl);simp only [Act.put,Zh,Zf,Zg]))
 refine qZt.nil ⟨by simp,trivial,fun U w8 hS8=>?_⟩
 simp only [List.foldl_nil]
 have HB8:=lH hS8
 clear hS8
 go_wp2
 go_ret
 exact ⟨rfl,HB8.o⟩
theorem same_3 {w:World} {b1 o1 b2 o2:Nat} (xn:Int) (xr:Int) (xm:Txt) (xa:Txt) (xl:Int) (xk:Int) (xo:Bool) (ya:Txt) (yl:Int) (yk:Int) (yo:Bool) (h:SmC w b1 o1 b2 o2 ⟨xn,xr,xm,xa,xl,xk,xo⟩ ⟨xn,xr,xm,ya,yl,yk,yo⟩) (e:(xa==ya)=false) :
 Calls Tryz.prog 134 #[.pointer (some ⟨b1,o1,none⟩),.pointer (some ⟨b2,o2,none⟩)] w (Rb (.bool false) w):=by
 simp only [SmC] at h
 have HC:=lH h
 clear h
 go_enter Tryz.func134,Tryz.ntmps134
 go_upto_region 1 with fail
 refine qZf (List.range 76) [] [] (fun _ w'=>Bel w w') (by kernel_rfl) (qVp qK7 (by kernel_rfl)) (Br w).drew ?_
 simp only [pickL,List.map_nil,List.range,List.range.loop,List.filterMap_cons,List.filterMap_nil]
 iterate 76 (first
 | (refine qZt.cons (fun _=>Says.skip ?_) ?_;rfl;simp only [Act.put,Zh,Zf,Zg])
 | (refine qZt.cons (v:=?_) (fun _=>Says.plain ?_ ?_) ?_;rotate_left;rfl;(intro w' hS;obtain ⟨p0,q0,p1,q1,p2,q2,p3,q3,p4,q4,p5,q5,p6,q6⟩:=HC.o w' hS;go_simp;with_reducible rfl);simp only [Act.put,Zh,Zf,Zg]))
 refine qZt.nil ⟨by simp,trivial,fun U w8 hS8=>?_⟩
 simp only [List.foldl_nil]
 have HB8:=lH hS8
 clear hS8
 go_wp2
 go_ret
 exact ⟨rfl,HB8.o⟩
theorem same_4 {w:World} {b1 o1 b2 o2:Nat} (xn:Int) (xr:Int) (xm:Txt) (xa:Txt) (xl:Int) (xk:Int) (xo:Bool) (yl:Int) (yk:Int) (yo:Bool) (h:SmC w b1 o1 b2 o2 ⟨xn,xr,xm,xa,xl,xk,xo⟩ ⟨xn,xr,xm,xa,yl,yk,yo⟩) (e:(xl==yl)=false) :
 Calls Tryz.prog 134 #[.pointer (some ⟨b1,o1,none⟩),.pointer (some ⟨b2,o2,none⟩)] w (Rb (.bool false) w):=by
 simp only [SmC] at h
 have HC:=lH h
 clear h
 go_enter Tryz.func134,Tryz.ntmps134
 go_upto_region 1 with fail
 refine qZf (List.range 76) [] [] (fun _ w'=>Bel w w') (by kernel_rfl) (qVp qK7 (by kernel_rfl)) (Br w).drew ?_
 simp only [pickL,List.map_nil,List.range,List.range.loop,List.filterMap_cons,List.filterMap_nil]
 iterate 76 (first
 | (refine qZt.cons (fun _=>Says.skip ?_) ?_;rfl;simp only [Act.put,Zh,Zf,Zg])
 | (refine qZt.cons (v:=?_) (fun _=>Says.plain ?_ ?_) ?_;rotate_left;rfl;(intro w' hS;obtain ⟨p0,q0,p1,q1,p2,q2,p3,q3,p4,q4,p5,q5,p6,q6⟩:=HC.o w' hS;go_simp;with_reducible rfl);simp only [Act.put,Zh,Zf,Zg]))
 refine qZt.nil ⟨by simp,trivial,fun U w8 hS8=>?_⟩
 simp only [List.foldl_nil]
 have HB8:=lH hS8
 clear hS8
 go_wp2
 go_ret
 exact ⟨rfl,HB8.o⟩
theorem same_5 {w:World} {b1 o1 b2 o2:Nat} (xn:Int) (xr:Int) (xm:Txt) (xa:Txt) (xl:Int) (xk:Int) (xo:Bool) (yk:Int) (yo:Bool) (h:SmC w b1 o1 b2 o2 ⟨xn,xr,xm,xa,xl,xk,xo⟩ ⟨xn,xr,xm,xa,xl,yk,yo⟩) (e:(xk==yk)=false) :
 Calls Tryz.prog 134 #[.pointer (some ⟨b1,o1,none⟩),.pointer (some ⟨b2,o2,none⟩)] w (Rb (.bool false) w):=by
 simp only [SmC] at h
 have HC:=lH h
 clear h
 go_enter Tryz.func134,Tryz.ntmps134
 go_upto_region 1 with fail
 refine qZf (List.range 76) [] [] (fun _ w'=>Bel w w') (by kernel_rfl) (qVp qK7 (by kernel_rfl)) (Br w).drew ?_
 simp only [pickL,List.map_nil,List.range,List.range.loop,List.filterMap_cons,List.filterMap_nil]
 iterate 76 (first
 | (refine qZt.cons (fun _=>Says.skip ?_) ?_;rfl;simp only [Act.put,Zh,Zf,Zg])
 | (refine qZt.cons (v:=?_) (fun _=>Says.plain ?_ ?_) ?_;rotate_left;rfl;(intro w' hS;obtain ⟨p0,q0,p1,q1,p2,q2,p3,q3,p4,q4,p5,q5,p6,q6⟩:=HC.o w' hS;go_simp;with_reducible rfl);simp only [Act.put,Zh,Zf,Zg]))
 refine qZt.nil ⟨by simp,trivial,fun U w8 hS8=>?_⟩
 simp only [List.foldl_nil]
 have HB8:=lH hS8
 clear hS8
 go_wp2
 go_ret
 exact ⟨rfl,HB8.o⟩
theorem same_6 {w:World} {b1 o1 b2 o2:Nat} (xn:Int) (xr:Int) (xm:Txt) (xa:Txt) (xl:Int) (xk:Int) (xo:Bool) (yo:Bool) (h:SmC w b1 o1 b2 o2 ⟨xn,xr,xm,xa,xl,xk,xo⟩ ⟨xn,xr,xm,xa,xl,xk,yo⟩) (e:(xo==yo)=false) :
 Calls Tryz.prog 134 #[.pointer (some ⟨b1,o1,none⟩),.pointer (some ⟨b2,o2,none⟩)] w (Rb (.bool false) w):=by
 simp only [SmC] at h
 have HC:=lH h
 clear h
 go_enter Tryz.func134,Tryz.ntmps134
 go_upto_region 1 with fail
 refine qZf (List.range 76) [] [] (fun _ w'=>Bel w w') (by kernel_rfl) (qVp qK7 (by kernel_rfl)) (Br w).drew ?_
 simp only [pickL,List.map_nil,List.range,List.range.loop,List.filterMap_cons,List.filterMap_nil]
 iterate 76 (first
 | (refine qZt.cons (fun _=>Says.skip ?_) ?_;rfl;simp only [Act.put,Zh,Zf,Zg])
 | (refine qZt.cons (v:=?_) (fun _=>Says.plain ?_ ?_) ?_;rotate_left;rfl;(intro w' hS;obtain ⟨p0,q0,p1,q1,p2,q2,p3,q3,p4,q4,p5,q5,p6,q6⟩:=HC.o w' hS;go_simp;with_reducible rfl);simp only [Act.put,Zh,Zf,Zg]))
 refine qZt.nil ⟨by simp,trivial,fun U w8 hS8=>?_⟩
 simp only [List.foldl_nil]
 have HB8:=lH hS8
 clear hS8
 go_wp2
 go_ret
 exact ⟨rfl,HB8.o⟩
theorem same_7 {w:World} {b1 o1 b2 o2:Nat} (xn:Int) (xr:Int) (xm:Txt) (xa:Txt) (xl:Int) (xk:Int) (xo:Bool)  (h:SmC w b1 o1 b2 o2 ⟨xn,xr,xm,xa,xl,xk,xo⟩ ⟨xn,xr,xm,xa,xl,xk,xo⟩) :
 Calls Tryz.prog 134 #[.pointer (some ⟨b1,o1,none⟩),.pointer (some ⟨b2,o2,none⟩)] w (Rb (.bool true) w):=by
 simp only [SmC] at h
 have HC:=lH h
 clear h
 go_enter Tryz.func134,Tryz.ntmps134
 go_upto_region 1 with fail
 refine qZf (List.range 76) [] [] (fun _ w'=>Bel w w') (by kernel_rfl) (qVp qK7 (by kernel_rfl)) (Br w).drew ?_
 simp only [pickL,List.map_nil,List.range,List.range.loop,List.filterMap_cons,List.filterMap_nil]
 iterate 76 (first
 | (refine qZt.cons (fun _=>Says.skip ?_) ?_;rfl;simp only [Act.put,Zh,Zf,Zg])
 | (refine qZt.cons (v:=?_) (fun _=>Says.plain ?_ ?_) ?_;rotate_left;rfl;(intro w' hS;obtain ⟨p0,q0,p1,q1,p2,q2,p3,q3,p4,q4,p5,q5,p6,q6⟩:=HC.o w' hS;go_simp;with_reducible rfl);simp only [Act.put,Zh,Zf,Zg]))
 refine qZt.nil ⟨by simp,trivial,fun U w8 hS8=>?_⟩
 simp only [List.foldl_nil]
 have HB8:=lH hS8
 clear hS8
 go_wp2
 go_ret
 exact ⟨rfl,HB8.o⟩
theorem qD7 {w:World} {b1 o1 b2 o2:Nat} {x y:Hd} {k1 k2:Value} (h1:TabC w b1 o1 x k1) (h2:TabC w b2 o2 y k2) :
 Calls Tryz.prog 134 #[.pointer (some ⟨b1,o1,none⟩),.pointer (some ⟨b2,o2,none⟩)] w (Rb (.bool (decide (x=y))) w):=by
 have l1:=World.block_lt_of_cell? w _ h1.node
 have l2:=World.block_lt_of_cell? w _ h2.node
 have h:SmC w b1 o1 b2 o2 x y:=fun w' hb=>⟨(hb.cells b1 _ l1).trans h1.node,(hb.cells b2 _ l2).trans h2.node,(hb.cells b1 _ l1).trans h1.role,(hb.cells b2 _ l2).trans h2.role,(hb.cells b1 _ l1).trans h1.name,(hb.cells b2 _ l2).trans h2.name,(hb.cells b1 _ l1).trans h1.about,(hb.cells b2 _ l2).trans h2.about,(hb.cells b1 _ l1).trans h1.level,(hb.cells b2 _ l2).trans h2.level,(hb.cells b1 _ l1).trans h1.checked,(hb.cells b2 _ l2).trans h2.checked,(hb.cells b1 _ l1).trans h1.off,(hb.cells b2 _ l2).trans h2.off⟩
 clear h1 h2 l1 l2
 obtain ⟨xn,xr,xm,xa,xl,xk,xo⟩:=x
 obtain ⟨yn,yr,ym,ya,yl,yk,yo⟩:=y
 simp only [Hd.mk.injEq]
 by_cases e0:xn=yn
 case neg=>
  rw [decide_eq_false (fun h=>e0 h.1)]
  exact same_0 _ _ _ _ _ _ _ _ _ _ _ _ _ _ h (by simpa using e0)
 subst e0
 by_cases e1:xr=yr
 case neg=>
  rw [decide_eq_false (fun h=>e1 h.2.1)]
  exact same_1 _ _ _ _ _ _ _ _ _ _ _ _ _ h (by simpa using e1)
 subst e1
 by_cases e2:xm=ym
 case neg=>
  rw [decide_eq_false (fun h=>e2 h.2.2.1)]
  exact same_2 _ _ _ _ _ _ _ _ _ _ _ _ h (by simpa using e2)
 subst e2
 by_cases e3:xa=ya
 case neg=>
  rw [decide_eq_false (fun h=>e3 h.2.2.2.1)]
  exact same_3 _ _ _ _ _ _ _ _ _ _ _ h (by simpa using e3)
 subst e3
 by_cases e4:xl=yl
 case neg=>
  rw [decide_eq_false (fun h=>e4 h.2.2.2.2.1)]
  exact same_4 _ _ _ _ _ _ _ _ _ _ h (by simpa using e4)
 subst e4
 by_cases e5:xk=yk
 case neg=>
  rw [decide_eq_false (fun h=>e5 h.2.2.2.2.2.1)]
  exact same_5 _ _ _ _ _ _ _ _ _ h (by simpa using e5)
 subst e5
 by_cases e6:xo=yo
 case neg=>
  rw [decide_eq_false (fun h=>e6 h.2.2.2.2.2.2)]
  exact same_6 _ _ _ _ _ _ _ _ h (by simpa using e6)
 subst e6
 rw [decide_eq_true ⟨rfl,rfl,rfl,rfl,rfl,rfl,rfl⟩]
 exact same_7 _ _ _ _ _ _ _ h
def AllAt (base k:Nat) (w:World) (y:Value) (b:List It):Prop:=
 ∃ h ks g v,b=[.mk h ks]/\y=.slice (some ⟨g,0,none⟩) 1 1/\base<=g/\Blk w g ([.int .i64 5,.int .i64 0,.int .i64 0,.int .i64 0]++qQi h v) 126/\ItsK (fun x=>base<=x/\x<w.heap.size) k w v ks
def AllM (a b:List It):Prop:=b.length=1/\(a=[]∨20<(evsM a b).length)
open Classical in
def OfAt (base k:Nat) (w:World) (y:Value) (a b:List It):Prop:=
 if AllM a b then AllAt base k w y b else qQb 12 rdEv base 126 w y (evsM a b)
theorem OfAt.all {base k:Nat} {w:World} {y:Value} {a b:List It} (h:AllM a b) (q:AllAt base k w y b):OfAt base k w y a b:=by
 unfold OfAt
 rw [if_pos h]
 exact q
theorem OfAt.plain {base k:Nat} {w:World} {y:Value} {a b:List It} (h:¬ AllM a b) (q:qQb 12 rdEv base 126 w y (evsM a b)):OfAt base k w y a b:=by
 unfold OfAt
 rw [if_neg h]
 exact q
theorem zG2 {w0 w2:World} {L:List Int} {t:Fl} {S:Int->Sv} {lab:Nat->Int} (hw:Wf t) (hh:qDy t) (hf:Fits L t) (hT:qQv w0.heap.size w2 S lab t) (hb:Bel w0 w2) :
 Dif ⟨w0,fun _=>False,w0⟩ w2.heap.size (w2.alloc (.cells #[(S (-1)).v,.slice none 0 0] 158)) L t []:=by
 have hB:Bel w2 (w2.alloc (.cells #[(S (-1)).v,.slice none 0 0] 158)):=(Br w2).alloc _
 have hK:=Blk.new' w2 _ rfl #[(S (-1)).v,.slice none 0 0] 158
 exact ⟨hw,hh,hf,hb.size,Bt hb hB,⟨S,lab,.slice none 0 0,hT.bel hB,⟨hK.cell 0,hK.frozen 0,hK.lt,fun n hn e=>by
  have:=(hT.lt hn e).2
  exact Nat.lt_irrefl _ this⟩,hK.cell 1,hK.frozen 1,qQb.nil _ _ _,(fun e=>by cases e),(fun _ _ _ _ e=>by cases e),fun _ h=>h.elim⟩,⟨_,_,hK⟩,fun _ h=>h.elim⟩
theorem dif_now {w0:WP} {w:World} {D:Nat} {L:List Int} {t:Fl} {evs:List Evt} (M:Dif w0 D w L t evs):∃ a n c,w.cell? ⟨D,0,none⟩=some (.slice a n c)/\∀ k μ N,Falls t.kids μ N->N<k->ItsK (·<w.heap.size) k w (.slice a n c) (itsOf t k (-1)):=by
 obtain ⟨h1,h2,h3,h4,h5,⟨S,lab,ov,k1,k2,k3,k4,k5,k6,k7,k8⟩,hbk,h6⟩:=M
 exact ⟨(S (-1)).a,(S (-1)).n,(S (-1)).c,k2.cell,fun k μ N F hk=>(zGi k1.rd h1 F k (-1) (.inl rfl) (by omega)).mono (fun b hb=>hb.2)⟩
theorem dif_out {w0:WP} {w:World} {D:Nat} {L:List Int} {t:Fl} {evs:List Evt} (M:Dif w0 D w L t evs):∃ a c,w.cell? ⟨D,1,none⟩=some (.slice a evs.length c)/\qQb 12 rdEv w0.heap.size 126 w (.slice a evs.length c) evs:=by
 obtain ⟨S,lab,ov,k1,k2,k3,k4,k5,k6,k7,k8⟩:=M.st
 obtain ⟨a,c,rfl,_,_⟩:=Rf k5.read
 exact ⟨a,c,k3,k5⟩
theorem qF4 {w0:WP} {w:World} {D:Nat} {L:List Int} {t:Fl} {evs:List Evt} (M:Dif w0 D w L t evs) {v:Value} {l:List Int} {Q:Nat->Prop} (h:qQa 1 qQf Q w0.wp v l) (hQ:∀ b,Q b->w0.P b):qQa 1 qQf (·<w.heap.size) w v l:=
 (qQa.agree h (fun b hb=>(M.kept b (hQ b hb)).1) (fun _ _ _ h=>h)).mono (fun b hb=>(M.kept b (hQ b hb)).2) (fun _ _ _ h=>h)
theorem dif_lone {w0:WP} {w:World} {D:Nat} {L:List Int} {t:Fl} {evs:List Evt} (M:Dif w0 D w L t evs) (hL:L.length<=1000000000) {x:Int} (hx:Has t x) {nv kv2:Value} {NB:List Int} {m g o:Nat} (hn:qKf m w nv NB) (hm:m<=w.heap.size) {B:Fl} (hNB:∀ n,n∈NB↔Has B n)
 (hT:TabC w g o (t.head x) kv2) (hI:∀ k μ N,Falls t.kids μ N->N<k->ItsK (·<w.heap.size) k w kv2 (itsOf t k x)) :
 ∃ r,Calls Tryz.prog 131 #[.pointer (some ⟨g,o,none⟩),nv] w (Rb (.bool r) w)/\(r=true↔∀ y,Reach t.kids x y->¬ Has B y):=by
 obtain ⟨μ,N,F⟩:=M.wf.falls
 have e:nodesL [It.mk (t.head x) (itsOf t (N+1) x)]=zJp t (N+1) x:=by
  rw [nodesL,nodesI,nodesL,List.append_nil,qFg M.wf M.heads,M.heads x hx]
  rfl
 refine ⟨_,qD9 hn hm hT (hI (N+1) μ N F (Nat.lt_succ_self N)) (by rw [e];exact Za (zBf M.wf M.fits F (Nat.lt_succ_self N) hx) hL),?_⟩
 rw [e,Bool.not_eq_true',List.any_eq_false]
 constructor
 ·intro h y hy hB
  have:=h y ((zJ5 F (Nat.lt_succ_self N)).2 hy)
  simp at this
  exact this ((hNB y).2 hB)
 ·intro h y hy
  have:=h y ((zJ5 F (Nat.lt_succ_self N)).1 hy)
  rw [<- hNB] at this
  simpa using this
theorem zWg (B:Fl) (t:Fl) {l:List Int} {i:Nat} (hi:i<l.length):lonesF B (l.drop i) t=lonesF B (l[i]::l.drop (i+1)) t:=by rw [List.drop_eq_getElem_cons hi]
theorem zWo (B:Fl) (t:Fl) {l:List Int} {i:Nat} (hi:i<l.length):dropsF B (l.drop i) t=dropsF B (l[i]::l.drop (i+1)) t:=by rw [List.drop_eq_getElem_cons hi]
theorem zV5 (B:Fl) (t:Fl) {l:List Int} {i:Nat} (hi:i<l.length):tellsF B (l.drop i) t=tellsF B (l[i]::l.drop (i+1)) t:=by rw [List.drop_eq_getElem_cons hi]
theorem zKn {base k:Nat} {w4:World} {y:Value} {h:Hd} {ks:List It} {S:List Nat} (o:OwnT base k w4 y [It.mk h ks] S):∃ g off cap ka kc,y=.slice (some ⟨g,off,none⟩) 1 cap/\1<=cap/\cap<=9223372036854775807/\TabC w4 g off h (.slice ka ks.length kc)/\ItsK (fun x=>base<=x/\x<w4.heap.size) k w4 (.slice ka ks.length kc) ks:=by
 obtain ⟨g,off,cap,kv,k',rfl,e1,e2,e3,_,I⟩:=(o.its.mono (fun b hb=>o.lt b hb)).item 0 (by simp)
 obtain ⟨ka,kc,rfl,_,_⟩:=Rf I.kidsAt
 have I0:=I
 simp only [Nat.zero_mul,Nat.add_zero,List.getElem_cons_zero] at I0
 exact ⟨g,off,cap,ka,kc,e1,e2,e3,⟨I0.node,I0.role,I0.name,I0.about,I0.level,I0.checked,I0.off,I0.kids⟩,I0.kidsAt.le (Nat.le_succ _)⟩
theorem rd_find {wA:World} {V:Int->Value} {B:Fl} {g0:Nat} (HR:qYq (·<wA.heap.size) wA V B) (hw:Wf B) (hh:qDy B) (hb:wA.cell? ⟨g0,0,none⟩=some (V (-1))) {x:Int} (hx:Has B x) :
 ∃ (ab:Addr) (gb ob lb cb:Nat) (ka:Option Addr) (kn kc:Nat) (ib:Nat),ib<lb/\lb<=cb/\cb<=9223372036854775807/\∀ W,Bel wA W->Calls Tryz.prog 130 #[.pointer (some ⟨g0,0,none⟩),.int .i64 x] W (Rv (.tuple #[.pointer (some ab),.int .i64 (ib:Int)]) W)/\W.cell? ab=some (.slice (some ⟨gb,ob,none⟩) lb cb)/\TabC W gb (ob+ib*8) (B.head x) (.slice ka kn kc):=by
 obtain ⟨μ,N,F⟩:=hw.falls
 have hp:=hw.par_has hx
 have hlt:(B.kids (B.par x)).idxOf x<(B.kids (B.par x)).length:=List.idxOf_lt_length_of_mem hx
 obtain ⟨gb,ob,cb,e1,e2,e3,hg,hT⟩:=HR.item hp _ hlt
 have hx2:(B.kids (B.par x))[(B.kids (B.par x)).idxOf x]=x:=List.getElem_idxOf hlt
 have hcl:=World.block_lt_of_cell? wA _ hb
 obtain ⟨ka,kc,hVx,_,_⟩:=Rf (HR x (.inr hx))
 rw [hx2,hVx] at hT
 refine ⟨qQg ⟨g0,0,none⟩ B V (B.par x),gb,ob,_,cb,ka,(B.kids x).length,kc,(B.kids (B.par x)).idxOf x,hlt,e2,e3,fun W hW=>?_⟩
 have hRW:qYq (·<wA.heap.size) W V B:=HR.agree (fun b hb=>hW.block b hb)
 have hbW:W.cell? ⟨g0,0,none⟩=some (V (-1)):=(hW.cells _ _ hcl).trans hb
 have hf:=qJi (box:=⟨g0,0,none⟩) hw F hh x (N+1) (-1) W hRW (.inl rfl) (by omega) (hRW.cell hw hbW (.inl rfl))
 have eb:qQg ⟨g0,0,none⟩ B V (-1)=⟨g0,0,none⟩:=by unfold qQg;rw [if_pos rfl]
 rw [qFc hw F (Nat.lt_succ_self N) hx,eb] at hf
 refine ⟨hf,by rw [hRW.cell hw hbW hp,e1],?_⟩
 exact ⟨(hW.cells gb _ hg).trans hT.node,(hW.cells gb _ hg).trans hT.role,(hW.cells gb _ hg).trans hT.name,(hW.cells gb _ hg).trans hT.about,(hW.cells gb _ hg).trans hT.level,(hW.cells gb _ hg).trans hT.checked,(hW.cells gb _ hg).trans hT.off,(hW.cells gb _ hg).trans hT.kids⟩
end Go.Proofs.YtklbmkaomojciaaGreat
