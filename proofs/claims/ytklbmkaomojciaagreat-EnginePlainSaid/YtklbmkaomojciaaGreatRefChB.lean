/- Changes of a document: the document's answer, walked: a new node. -/
import Derived.Test.YtklbmkaomojciaaGreatRefChange0
set_option maxRecDepth 100000
set_option maxHeartbeats 4000000
namespace Go.Proofs.YtklbmkaomojciaaGreat
open Go.RowKit
theorem qBu (m:Nat) (v:Value) (d:Dc) (x:Chg) (w:World) (hv:qQq m w v d) (hm:m<=w.heap.size) (hd:d.length<=60) (hk:x.kind=1) (hi:isM d x.node false=true) (hnm:x.name.length<=9223372036854775807) (hl:x.value.length<=9223372036854775807) (g:Good d) (htag0:(nd d x.node).tag≠[]) :
 Calls Tryz.prog 68 #[v,chgV x] w (qQc w (qQo d x)):=by
 obtain ⟨kind,node,dest,before,nm,value⟩:=x
 simp only at hk hi hl hnm
 subst hk
 obtain ⟨p,hpp,rfl,-⟩:=qZg.1 hi
 obtain ⟨b,off,cap',av,kv,sv,rfl,v1,v2,hbb,hP⟩:=hv.node p hpp
 have p0:=hP.live
 have p1:=hP.tag
 have p2:=hP.text
 have p3:=hP.atts
 have p4:=hP.up
 have p5:=hP.kids
 have p6:=hP.hasS
 have p7:=hP.shadow
 have p8:=hP.inS
 have PA:=lH hP.attsAt
 have PK:=lH hP.kidsAt
 have PS:=lH hP.shadowAt
 have HX:=lH (qQv hpp)
 have HI:=lH hi
 clear hP hi
 generalize hXX:d[p]=X at *
 obtain ⟨xl,xt,xx,xa,xu,xk,xh,xs,xi⟩:=X
 simp only at p0 p1 p2 p3 p4 p5 p6 p7 p8 PA PK PS
 obtain ⟨ka,kc,rfl,k1,k2⟩:=Rf PK.o
 obtain ⟨sa,sc,rfl,s1,s2⟩:=Rf PS.o
 obtain ⟨aa,ac,rfl,a1,a2⟩:=Rf PA.o
 have HV:=lH hv
 have HXX:=lH hXX
 clear hv hXX
 have HNO:=lH qQt
 have htag:xt≠[]:=by have:=htag0;simp only [HX.o] at this;exact this
 have hbt:xt.isEmpty=false:=by simpa using htag
 clear htag0
 cases hname:name nm with
 | false=>
   have cN:Hi (∀ W,Calls Tryz.prog 115 #[.string ⟨nm.toArray⟩] W (Rv (.bool false) W)):=lH (fun W=>hname▸qQx nm W hnm)
   have HR:Hi (qQo d { kind:=1,node:=(p:Int),dest:=dest,before:=before,name:=nm,value:=value }=(7,0,[])):=lH (by
    unfold qQo;rw [if_neg (by simp [isTextK]),if_pos (by simp [isTextK,hname])])
   clear hname
   unfold chgV
   go_enter Tryz.func68,Tryz.ntmps68
   go_upto_region 2 with fail
   obtain ⟨W0,hW0⟩:∃ W0:World,W0=w.alloc (.cells #[.int .i64 1,.int .i64 (p:Int),.int .i64 dest,.int .i64 before,.string ⟨nm.toArray⟩,.string ⟨value.toArray⟩] 40):=⟨_,rfl⟩
   have hx0:Blk W0 w.heap.size [.int .i64 1,.int .i64 (p:Int),.int .i64 dest,.int .i64 before,.string ⟨nm.toArray⟩,.string ⟨value.toArray⟩] 40:=by rw [hW0];exact Blk.new' _ _ rfl _ _
   have hB0:Bel w W0:=by rw [hW0];exact (Br w).alloc _
   rw [<- hW0]
   clear hW0
   have hbw:b<w.heap.size:=by omega
   replace p0:=(Bel.cells hB0 _ _ hbw).trans p0
   replace p1:=(Bel.cells hB0 _ _ hbw).trans p1
   replace p2:=(Bel.cells hB0 _ _ hbw).trans p2
   replace p3:=(Bel.cells hB0 _ _ hbw).trans p3
   replace p4:=(Bel.cells hB0 _ _ hbw).trans p4
   replace p5:=(Bel.cells hB0 _ _ hbw).trans p5
   replace p6:=(Bel.cells hB0 _ _ hbw).trans p6
   replace p7:=(Bel.cells hB0 _ _ hbw).trans p7
   replace p8:=(Bel.cells hB0 _ _ hbw).trans p8
   have x1:=hx0.cell 1
   simp only [Ze,Zd] at x1
   have HB0:=lH hB0
   have HX0:=lH hx0
   have hlt0:=hx0.lt
   clear hB0 hx0
   go_upto_region 3 with fail
   obtain ⟨W1,hW1⟩:∃ W1:World,W1=W0.alloc (.cells #[.bool xl,.string ⟨xt.toArray⟩,.string ⟨xx.toArray⟩,.slice aa xa.length ac,.int .i64 xu,.slice ka xk.length kc,.bool xh,.slice sa xs.length sc,.bool xi] 65):=⟨_,rfl⟩
   have hx1:Blk W1 w.heap.size [.int .i64 1,.int .i64 (p:Int),.int .i64 dest,.int .i64 before,.string ⟨nm.toArray⟩,.string ⟨value.toArray⟩] 40:=by rw [hW1];exact HX0.o.bel ((Br W0).alloc _)
   have hn1:Blk W1 W0.heap.size [.bool xl,.string ⟨xt.toArray⟩,.string ⟨xx.toArray⟩,.slice aa xa.length ac,.int .i64 xu,.slice ka xk.length kc,.bool xh,.slice sa xs.length sc,.bool xi] 65:=by rw [hW1];exact Blk.new' _ _ rfl _ _
   have hB1:Bel w W1:=by rw [hW1];exact HB0.o.alloc _
   rw [<- hW1]
   clear hW1 p0 p1 p2 p3 p4 p5 p6 p7 p8 x1 HX0 HB0
   have x0:=hx1.cell 0
   have x1:=hx1.cell 1
   have x2:=hx1.cell 2
   have x3:=hx1.cell 3
   have x4:=hx1.cell 4
   have x5:=hx1.cell 5
   have n0:=hn1.cell 0
   have n1:=hn1.cell 1
   have n2:=hn1.cell 2
   have n3:=hn1.cell 3
   have n4:=hn1.cell 4
   have n5:=hn1.cell 5
   have n6:=hn1.cell 6
   have n7:=hn1.cell 7
   have n8:=hn1.cell 8
   have fn:=hn1.frozen
   simp only [Ze,Zd] at x0 x1 x2 x3 x4 x5 n0 n1 n2 n3 n4 n5 n6 n7 n8
   have HB1:=lH hB1
   have HXB:=lH hx1
   have HNB:=lH hn1
   have hsz1:=hB1.size
   have hg1:=hx1.lt
   have hg2:=hn1.lt
   clear hB1 hx1 hn1
   go_wp2_with (first | (go_at_call 110;refine (HNO.o _ _).mono ?_;rintro e w1 ⟨rfl,rfl⟩) | (go_at_call 115;refine (cN.o _).mono ?_;rintro e w1 ⟨rfl,rfl⟩))
   go_ret3
   first | exact qQc.no HR.o HB1.o | exact qQc.no HR.o (HB1.o.alloc _)
 | true=>
   have cN:Hi (∀ W,Calls Tryz.prog 115 #[.string ⟨nm.toArray⟩] W (Rv (.bool true) W)):=lH (fun W=>hname▸qQx nm W hnm)
   have hx':=qXv (x:={ kind:=1,node:=(p:Int),dest:=dest,before:=before,name:=nm,value:=value }) (t:=(p:Int)) (sh:=false) (fun h=>by simp [isTextK] at h) (fun h=>by exact hname)
   have hnew:qV9 { kind:=1,node:=(p:Int),dest:=dest,before:=before,name:=nm,value:=value }={ tag:=nm }:=rfl
   rw [hnew] at hx'
   obtain ⟨hok,hle⟩:=qVu (x:={ tag:=nm }) (t:=(p:Int)) (sh:=false) g.tree (qQ0.2 ⟨HI.o,by simp only [HX.o];exact htag⟩) (fun h=>by simp at h) hx'.1 hx'.2.1 hx'.2.2
   have hfew:(listM (nd d (p:Int)) false).length<=12:=by obtain ⟨r,gr⟩:=g.tree;exact (gr.ok p).few false
   rw [<- hle] at hfew
   have hgr:=fun h=>(hok.tree' (before:=before) h)
   have cM:Hi (∀ W,Bel w W->Calls Tryz.prog 117 #[.slice (some ⟨b,off,none⟩) d.length cap',.agg #[.bool false,.string ⟨nm.toArray⟩,.string ⟨#[]⟩,.slice none 0 0,.int .i64 0,.slice none 0 0,.bool false,.slice none 0 0,.bool false],.int .i64 (p:Int),.int .i64 before,.bool false] W (qQc W (qZd d { tag:=nm } p before false))):=lH (fun W h=>
    qZ3 m _ d { tag:=nm } (.slice none 0 0) (.slice none 0 0) (.slice none 0 0) p before false W (HV.o.later h hm) (Za hm h.size) (by omega) qQb.nil qQb.nil qQb.nil (qQ2 hok.to) hfew (fun h=>by obtain ⟨r,gr,hk,_⟩:=hgr h;exact qHq gr 100 _ hk (by omega)))
   clear hx' hnew hok hle hfew hgr g htag
   have HR:Hi (qQo d { kind:=1,node:=(p:Int),dest:=dest,before:=before,name:=nm,value:=value }=qZd d { tag:=nm } p before false):=lH (by
    unfold qQo;rw [if_neg (by simp [isTextK]),if_neg (by simp [isTextK,hname]),if_neg (by simp [qV1])];rfl)
   have hr2:qZd d { tag:=nm } p before false=((qZd d { tag:=nm } p before false).1,(qZd d { tag:=nm } p before false).2.1,(qZd d { tag:=nm } p before false).2.2):=rfl
   rw [hr2] at HR
   clear hr2
   generalize qZd d { tag:=nm } p before false=R at *
   unfold chgV
   go_enter Tryz.func68,Tryz.ntmps68
   go_upto_region 2 with fail
   obtain ⟨W0,hW0⟩:∃ W0:World,W0=w.alloc (.cells #[.int .i64 1,.int .i64 (p:Int),.int .i64 dest,.int .i64 before,.string ⟨nm.toArray⟩,.string ⟨value.toArray⟩] 40):=⟨_,rfl⟩
   have hx0:Blk W0 w.heap.size [.int .i64 1,.int .i64 (p:Int),.int .i64 dest,.int .i64 before,.string ⟨nm.toArray⟩,.string ⟨value.toArray⟩] 40:=by rw [hW0];exact Blk.new' _ _ rfl _ _
   have hB0:Bel w W0:=by rw [hW0];exact (Br w).alloc _
   rw [<- hW0]
   clear hW0
   have hbw:b<w.heap.size:=by omega
   replace p0:=(Bel.cells hB0 _ _ hbw).trans p0
   replace p1:=(Bel.cells hB0 _ _ hbw).trans p1
   replace p2:=(Bel.cells hB0 _ _ hbw).trans p2
   replace p3:=(Bel.cells hB0 _ _ hbw).trans p3
   replace p4:=(Bel.cells hB0 _ _ hbw).trans p4
   replace p5:=(Bel.cells hB0 _ _ hbw).trans p5
   replace p6:=(Bel.cells hB0 _ _ hbw).trans p6
   replace p7:=(Bel.cells hB0 _ _ hbw).trans p7
   replace p8:=(Bel.cells hB0 _ _ hbw).trans p8
   have x1:=hx0.cell 1
   simp only [Ze,Zd] at x1
   have HB0:=lH hB0
   have HX0:=lH hx0
   have hlt0:=hx0.lt
   clear hB0 hx0
   go_upto_region 3 with fail
   obtain ⟨W1,hW1⟩:∃ W1:World,W1=W0.alloc (.cells #[.bool xl,.string ⟨xt.toArray⟩,.string ⟨xx.toArray⟩,.slice aa xa.length ac,.int .i64 xu,.slice ka xk.length kc,.bool xh,.slice sa xs.length sc,.bool xi] 65):=⟨_,rfl⟩
   have hx1:Blk W1 w.heap.size [.int .i64 1,.int .i64 (p:Int),.int .i64 dest,.int .i64 before,.string ⟨nm.toArray⟩,.string ⟨value.toArray⟩] 40:=by rw [hW1];exact HX0.o.bel ((Br W0).alloc _)
   have hn1:Blk W1 W0.heap.size [.bool xl,.string ⟨xt.toArray⟩,.string ⟨xx.toArray⟩,.slice aa xa.length ac,.int .i64 xu,.slice ka xk.length kc,.bool xh,.slice sa xs.length sc,.bool xi] 65:=by rw [hW1];exact Blk.new' _ _ rfl _ _
   have hB1:Bel w W1:=by rw [hW1];exact HB0.o.alloc _
   rw [<- hW1]
   clear hW1 p0 p1 p2 p3 p4 p5 p6 p7 p8 x1 HX0 HB0
   have x0:=hx1.cell 0
   have x1:=hx1.cell 1
   have x2:=hx1.cell 2
   have x3:=hx1.cell 3
   have x4:=hx1.cell 4
   have x5:=hx1.cell 5
   have n0:=hn1.cell 0
   have n1:=hn1.cell 1
   have n2:=hn1.cell 2
   have n3:=hn1.cell 3
   have n4:=hn1.cell 4
   have n5:=hn1.cell 5
   have n6:=hn1.cell 6
   have n7:=hn1.cell 7
   have n8:=hn1.cell 8
   have fn:=hn1.frozen
   simp only [Ze,Zd] at x0 x1 x2 x3 x4 x5 n0 n1 n2 n3 n4 n5 n6 n7 n8
   have HB1:=lH hB1
   have HXB:=lH hx1
   have HNB:=lH hn1
   have hsz1:=hB1.size
   have hg1:=hx1.lt
   have hg2:=hn1.lt
   clear hB1 hx1 hn1
   go_wp2_with (first | (go_at_call 110;refine (HNO.o _ _).mono ?_;rintro e w1 ⟨rfl,rfl⟩) | (go_at_call 115;refine (cN.o _).mono ?_;rintro e w1 ⟨rfl,rfl⟩) | (go_at_call 117;refine (cM.o _ (by first | exact HB1.o.alloc _ | exact (HB1.o.alloc _).alloc _)).mono ?_;rintro e wM ⟨bM,yM,rfl,uM,rfl,oM⟩;obtain ⟨y5,z5,rfl,_,_⟩:=Rf oM;have HBM:=lH (Bt (HB1.o.alloc _) bM);have HDM:=lH oM;clear bM oM))
   go_ret3
   exact qQc.any HR.o HBM.o HDM.o
theorem qBq (m:Nat) (v:Value) (d:Dc) (x:Chg) (w:World) (hv:qQq m w v d) (hm:m<=w.heap.size) (hd:d.length<=60) (hk:x.kind=2) (hi:isM d x.node false=true) (hnm:x.name.length<=9223372036854775807) (hl:x.value.length<=9223372036854775807) (g:Good d) (htag0:(nd d x.node).tag≠[]) :
 Calls Tryz.prog 68 #[v,chgV x] w (qQc w (qQo d x)):=by
 obtain ⟨kind,node,dest,before,nm,value⟩:=x
 simp only at hk hi hl hnm
 subst hk
 obtain ⟨p,hpp,rfl,-⟩:=qZg.1 hi
 obtain ⟨b,off,cap',av,kv,sv,rfl,v1,v2,hbb,hP⟩:=hv.node p hpp
 have p0:=hP.live
 have p1:=hP.tag
 have p2:=hP.text
 have p3:=hP.atts
 have p4:=hP.up
 have p5:=hP.kids
 have p6:=hP.hasS
 have p7:=hP.shadow
 have p8:=hP.inS
 have PA:=lH hP.attsAt
 have PK:=lH hP.kidsAt
 have PS:=lH hP.shadowAt
 have HX:=lH (qQv hpp)
 have HI:=lH hi
 clear hP hi
 generalize hXX:d[p]=X at *
 obtain ⟨xl,xt,xx,xa,xu,xk,xh,xs,xi⟩:=X
 simp only at p0 p1 p2 p3 p4 p5 p6 p7 p8 PA PK PS
 obtain ⟨ka,kc,rfl,k1,k2⟩:=Rf PK.o
 obtain ⟨sa,sc,rfl,s1,s2⟩:=Rf PS.o
 obtain ⟨aa,ac,rfl,a1,a2⟩:=Rf PA.o
 have HV:=lH hv
 have HXX:=lH hXX
 clear hv hXX
 have HNO:=lH qQt
 have htag:xt≠[]:=by have:=htag0;simp only [HX.o] at this;exact this
 have hbt:xt.isEmpty=false:=by simpa using htag
 clear htag0
 by_cases hv60:60<value.length
 ·have HR:Hi (qQo d { kind:=2,node:=(p:Int),dest:=dest,before:=before,name:=nm,value:=value }=(4,0,[])):=lH (by
   unfold qQo;rw [if_pos (by simp [isTextK];omega)])
  unfold chgV
  go_enter Tryz.func68,Tryz.ntmps68
  go_upto_region 2 with fail
  obtain ⟨W0,hW0⟩:∃ W0:World,W0=w.alloc (.cells #[.int .i64 2,.int .i64 (p:Int),.int .i64 dest,.int .i64 before,.string ⟨nm.toArray⟩,.string ⟨value.toArray⟩] 40):=⟨_,rfl⟩
  have hx0:Blk W0 w.heap.size [.int .i64 2,.int .i64 (p:Int),.int .i64 dest,.int .i64 before,.string ⟨nm.toArray⟩,.string ⟨value.toArray⟩] 40:=by rw [hW0];exact Blk.new' _ _ rfl _ _
  have hB0:Bel w W0:=by rw [hW0];exact (Br w).alloc _
  rw [<- hW0]
  clear hW0
  have hbw:b<w.heap.size:=by omega
  replace p0:=(Bel.cells hB0 _ _ hbw).trans p0
  replace p1:=(Bel.cells hB0 _ _ hbw).trans p1
  replace p2:=(Bel.cells hB0 _ _ hbw).trans p2
  replace p3:=(Bel.cells hB0 _ _ hbw).trans p3
  replace p4:=(Bel.cells hB0 _ _ hbw).trans p4
  replace p5:=(Bel.cells hB0 _ _ hbw).trans p5
  replace p6:=(Bel.cells hB0 _ _ hbw).trans p6
  replace p7:=(Bel.cells hB0 _ _ hbw).trans p7
  replace p8:=(Bel.cells hB0 _ _ hbw).trans p8
  have x1:=hx0.cell 1
  simp only [Ze,Zd] at x1
  have HB0:=lH hB0
  have HX0:=lH hx0
  have hlt0:=hx0.lt
  clear hB0 hx0
  go_upto_region 3 with fail
  obtain ⟨W1,hW1⟩:∃ W1:World,W1=W0.alloc (.cells #[.bool xl,.string ⟨xt.toArray⟩,.string ⟨xx.toArray⟩,.slice aa xa.length ac,.int .i64 xu,.slice ka xk.length kc,.bool xh,.slice sa xs.length sc,.bool xi] 65):=⟨_,rfl⟩
  have hx1:Blk W1 w.heap.size [.int .i64 2,.int .i64 (p:Int),.int .i64 dest,.int .i64 before,.string ⟨nm.toArray⟩,.string ⟨value.toArray⟩] 40:=by rw [hW1];exact HX0.o.bel ((Br W0).alloc _)
  have hn1:Blk W1 W0.heap.size [.bool xl,.string ⟨xt.toArray⟩,.string ⟨xx.toArray⟩,.slice aa xa.length ac,.int .i64 xu,.slice ka xk.length kc,.bool xh,.slice sa xs.length sc,.bool xi] 65:=by rw [hW1];exact Blk.new' _ _ rfl _ _
  have hB1:Bel w W1:=by rw [hW1];exact HB0.o.alloc _
  rw [<- hW1]
  clear hW1 p0 p1 p2 p3 p4 p5 p6 p7 p8 x1 HX0 HB0
  have x0:=hx1.cell 0
  have x1:=hx1.cell 1
  have x2:=hx1.cell 2
  have x3:=hx1.cell 3
  have x4:=hx1.cell 4
  have x5:=hx1.cell 5
  have n0:=hn1.cell 0
  have n1:=hn1.cell 1
  have n2:=hn1.cell 2
  have n3:=hn1.cell 3
  have n4:=hn1.cell 4
  have n5:=hn1.cell 5
  have n6:=hn1.cell 6
  have n7:=hn1.cell 7
  have n8:=hn1.cell 8
  have fn:=hn1.frozen
  simp only [Ze,Zd] at x0 x1 x2 x3 x4 x5 n0 n1 n2 n3 n4 n5 n6 n7 n8
  have HB1:=lH hB1
  have HXB:=lH hx1
  have HNB:=lH hn1
  have hsz1:=hB1.size
  have hg1:=hx1.lt
  have hg2:=hn1.lt
  clear hB1 hx1 hn1
  go_wp2_with (first | (go_at_call 110;refine (HNO.o _ _).mono ?_;rintro e w1 ⟨rfl,rfl⟩))
  go_ret3
  first | exact qQc.no HR.o HB1.o | exact qQc.no HR.o (HB1.o.alloc _)
 ·have hx':=qXv (x:={ kind:=2,node:=(p:Int),dest:=dest,before:=before,name:=nm,value:=value }) (t:=(p:Int)) (sh:=false) (fun h=>by simp;omega) (fun h=>by simp [isTextK] at h)
  have hnew:qV9 { kind:=2,node:=(p:Int),dest:=dest,before:=before,name:=nm,value:=value }={ text:=value }:=rfl
  rw [hnew] at hx'
  obtain ⟨hok,hle⟩:=qVu (x:={ text:=value }) (t:=(p:Int)) (sh:=false) g.tree (qQ0.2 ⟨HI.o,by simp only [HX.o];exact htag⟩) (fun h=>by simp at h) hx'.1 hx'.2.1 hx'.2.2
  have hfew:(listM (nd d (p:Int)) false).length<=12:=by obtain ⟨r,gr⟩:=g.tree;exact (gr.ok p).few false
  rw [<- hle] at hfew
  have hgr:=fun h=>(hok.tree' (before:=before) h)
  have cM:Hi (∀ W,Bel w W->Calls Tryz.prog 117 #[.slice (some ⟨b,off,none⟩) d.length cap',.agg #[.bool false,.string ⟨#[]⟩,.string ⟨value.toArray⟩,.slice none 0 0,.int .i64 0,.slice none 0 0,.bool false,.slice none 0 0,.bool false],.int .i64 (p:Int),.int .i64 before,.bool false] W (qQc W (qZd d { text:=value } p before false))):=lH (fun W h=>
   qZ3 m _ d { text:=value } (.slice none 0 0) (.slice none 0 0) (.slice none 0 0) p before false W (HV.o.later h hm) (Za hm h.size) (by omega) qQb.nil qQb.nil qQb.nil (qQ2 hok.to) hfew (fun h=>by obtain ⟨r,gr,hk,_⟩:=hgr h;exact qHq gr 100 _ hk (by omega)))
  clear hx' hnew hok hle hfew hgr g htag
  have HR:Hi (qQo d { kind:=2,node:=(p:Int),dest:=dest,before:=before,name:=nm,value:=value }=qZd d { text:=value } p before false):=lH (by
   unfold qQo;rw [if_neg (by simp [isTextK];omega),if_neg (by simp [isTextK]),if_neg (by simp [qV1])];rfl)
  have hr2:qZd d { text:=value } p before false=((qZd d { text:=value } p before false).1,(qZd d { text:=value } p before false).2.1,(qZd d { text:=value } p before false).2.2):=rfl
  rw [hr2] at HR
  clear hr2
  generalize qZd d { text:=value } p before false=R at *
  unfold chgV
  go_enter Tryz.func68,Tryz.ntmps68
  go_upto_region 2 with fail
  obtain ⟨W0,hW0⟩:∃ W0:World,W0=w.alloc (.cells #[.int .i64 2,.int .i64 (p:Int),.int .i64 dest,.int .i64 before,.string ⟨nm.toArray⟩,.string ⟨value.toArray⟩] 40):=⟨_,rfl⟩
  have hx0:Blk W0 w.heap.size [.int .i64 2,.int .i64 (p:Int),.int .i64 dest,.int .i64 before,.string ⟨nm.toArray⟩,.string ⟨value.toArray⟩] 40:=by rw [hW0];exact Blk.new' _ _ rfl _ _
  have hB0:Bel w W0:=by rw [hW0];exact (Br w).alloc _
  rw [<- hW0]
  clear hW0
  have hbw:b<w.heap.size:=by omega
  replace p0:=(Bel.cells hB0 _ _ hbw).trans p0
  replace p1:=(Bel.cells hB0 _ _ hbw).trans p1
  replace p2:=(Bel.cells hB0 _ _ hbw).trans p2
  replace p3:=(Bel.cells hB0 _ _ hbw).trans p3
  replace p4:=(Bel.cells hB0 _ _ hbw).trans p4
  replace p5:=(Bel.cells hB0 _ _ hbw).trans p5
  replace p6:=(Bel.cells hB0 _ _ hbw).trans p6
  replace p7:=(Bel.cells hB0 _ _ hbw).trans p7
  replace p8:=(Bel.cells hB0 _ _ hbw).trans p8
  have x1:=hx0.cell 1
  simp only [Ze,Zd] at x1
  have HB0:=lH hB0
  have HX0:=lH hx0
  have hlt0:=hx0.lt
  clear hB0 hx0
  go_upto_region 3 with fail
  obtain ⟨W1,hW1⟩:∃ W1:World,W1=W0.alloc (.cells #[.bool xl,.string ⟨xt.toArray⟩,.string ⟨xx.toArray⟩,.slice aa xa.length ac,.int .i64 xu,.slice ka xk.length kc,.bool xh,.slice sa xs.length sc,.bool xi] 65):=⟨_,rfl⟩
  have hx1:Blk W1 w.heap.size [.int .i64 2,.int .i64 (p:Int),.int .i64 dest,.int .i64 before,.string ⟨nm.toArray⟩,.string ⟨value.toArray⟩] 40:=by rw [hW1];exact HX0.o.bel ((Br W0).alloc _)
  have hn1:Blk W1 W0.heap.size [.bool xl,.string ⟨xt.toArray⟩,.string ⟨xx.toArray⟩,.slice aa xa.length ac,.int .i64 xu,.slice ka xk.length kc,.bool xh,.slice sa xs.length sc,.bool xi] 65:=by rw [hW1];exact Blk.new' _ _ rfl _ _
  have hB1:Bel w W1:=by rw [hW1];exact HB0.o.alloc _
  rw [<- hW1]
  clear hW1 p0 p1 p2 p3 p4 p5 p6 p7 p8 x1 HX0 HB0
  have x0:=hx1.cell 0
  have x1:=hx1.cell 1
  have x2:=hx1.cell 2
  have x3:=hx1.cell 3
  have x4:=hx1.cell 4
  have x5:=hx1.cell 5
  have n0:=hn1.cell 0
  have n1:=hn1.cell 1
  have n2:=hn1.cell 2
  have n3:=hn1.cell 3
  have n4:=hn1.cell 4
  have n5:=hn1.cell 5
  have n6:=hn1.cell 6
  have n7:=hn1.cell 7
  have n8:=hn1.cell 8
  have fn:=hn1.frozen
  simp only [Ze,Zd] at x0 x1 x2 x3 x4 x5 n0 n1 n2 n3 n4 n5 n6 n7 n8
  have HB1:=lH hB1
  have HXB:=lH hx1
  have HNB:=lH hn1
  have hsz1:=hB1.size
  have hg1:=hx1.lt
  have hg2:=hn1.lt
  clear hB1 hx1 hn1
  go_wp2_with (first | (go_at_call 110;refine (HNO.o _ _).mono ?_;rintro e w1 ⟨rfl,rfl⟩) | (go_at_call 117;refine (cM.o _ (by first | exact HB1.o.alloc _ | exact (HB1.o.alloc _).alloc _)).mono ?_;rintro e wM ⟨bM,yM,rfl,uM,rfl,oM⟩;obtain ⟨y5,z5,rfl,_,_⟩:=Rf oM;have HBM:=lH (Bt (HB1.o.alloc _) bM);have HDM:=lH oM;clear bM oM))
  go_ret3
  exact qQc.any HR.o HBM.o HDM.o
theorem qBe (m:Nat) (v:Value) (d:Dc) (x:Chg) (w:World) (hv:qQq m w v d) (hm:m<=w.heap.size) (hd:d.length<=60) (hk:x.kind=9) (hi:isM d x.node false=true) (hnm:x.name.length<=9223372036854775807) (hl:x.value.length<=9223372036854775807) (g:Good d) (htag0:(nd d x.node).tag≠[]) :
 Calls Tryz.prog 68 #[v,chgV x] w (qQc w (qQo d x)):=by
 obtain ⟨kind,node,dest,before,nm,value⟩:=x
 simp only at hk hi hl hnm
 subst hk
 obtain ⟨p,hpp,rfl,-⟩:=qZg.1 hi
 obtain ⟨b,off,cap',av,kv,sv,rfl,v1,v2,hbb,hP⟩:=hv.node p hpp
 have p0:=hP.live
 have p1:=hP.tag
 have p2:=hP.text
 have p3:=hP.atts
 have p4:=hP.up
 have p5:=hP.kids
 have p6:=hP.hasS
 have p7:=hP.shadow
 have p8:=hP.inS
 have PA:=lH hP.attsAt
 have PK:=lH hP.kidsAt
 have PS:=lH hP.shadowAt
 have HX:=lH (qQv hpp)
 have HI:=lH hi
 clear hP hi
 generalize hXX:d[p]=X at *
 obtain ⟨xl,xt,xx,xa,xu,xk,xh,xs,xi⟩:=X
 simp only at p0 p1 p2 p3 p4 p5 p6 p7 p8 PA PK PS
 obtain ⟨ka,kc,rfl,k1,k2⟩:=Rf PK.o
 obtain ⟨sa,sc,rfl,s1,s2⟩:=Rf PS.o
 obtain ⟨aa,ac,rfl,a1,a2⟩:=Rf PA.o
 have HV:=lH hv
 have HXX:=lH hXX
 clear hv hXX
 have HNO:=lH qQt
 have htag:xt≠[]:=by have:=htag0;simp only [HX.o] at this;exact this
 have hbt:xt.isEmpty=false:=by simpa using htag
 clear htag0
 cases hname:name nm with
 | false=>
   have cN:Hi (∀ W,Calls Tryz.prog 115 #[.string ⟨nm.toArray⟩] W (Rv (.bool false) W)):=lH (fun W=>hname▸qQx nm W hnm)
   have HR:Hi (qQo d { kind:=9,node:=(p:Int),dest:=dest,before:=before,name:=nm,value:=value }=(7,0,[])):=lH (by
    unfold qQo;rw [if_neg (by simp [isTextK]),if_pos (by simp [isTextK,hname])])
   clear hname
   unfold chgV
   go_enter Tryz.func68,Tryz.ntmps68
   go_upto_region 2 with fail
   obtain ⟨W0,hW0⟩:∃ W0:World,W0=w.alloc (.cells #[.int .i64 9,.int .i64 (p:Int),.int .i64 dest,.int .i64 before,.string ⟨nm.toArray⟩,.string ⟨value.toArray⟩] 40):=⟨_,rfl⟩
   have hx0:Blk W0 w.heap.size [.int .i64 9,.int .i64 (p:Int),.int .i64 dest,.int .i64 before,.string ⟨nm.toArray⟩,.string ⟨value.toArray⟩] 40:=by rw [hW0];exact Blk.new' _ _ rfl _ _
   have hB0:Bel w W0:=by rw [hW0];exact (Br w).alloc _
   rw [<- hW0]
   clear hW0
   have hbw:b<w.heap.size:=by omega
   replace p0:=(Bel.cells hB0 _ _ hbw).trans p0
   replace p1:=(Bel.cells hB0 _ _ hbw).trans p1
   replace p2:=(Bel.cells hB0 _ _ hbw).trans p2
   replace p3:=(Bel.cells hB0 _ _ hbw).trans p3
   replace p4:=(Bel.cells hB0 _ _ hbw).trans p4
   replace p5:=(Bel.cells hB0 _ _ hbw).trans p5
   replace p6:=(Bel.cells hB0 _ _ hbw).trans p6
   replace p7:=(Bel.cells hB0 _ _ hbw).trans p7
   replace p8:=(Bel.cells hB0 _ _ hbw).trans p8
   have x1:=hx0.cell 1
   simp only [Ze,Zd] at x1
   have HB0:=lH hB0
   have HX0:=lH hx0
   have hlt0:=hx0.lt
   clear hB0 hx0
   go_upto_region 3 with fail
   obtain ⟨W1,hW1⟩:∃ W1:World,W1=W0.alloc (.cells #[.bool xl,.string ⟨xt.toArray⟩,.string ⟨xx.toArray⟩,.slice aa xa.length ac,.int .i64 xu,.slice ka xk.length kc,.bool xh,.slice sa xs.length sc,.bool xi] 65):=⟨_,rfl⟩
   have hx1:Blk W1 w.heap.size [.int .i64 9,.int .i64 (p:Int),.int .i64 dest,.int .i64 before,.string ⟨nm.toArray⟩,.string ⟨value.toArray⟩] 40:=by rw [hW1];exact HX0.o.bel ((Br W0).alloc _)
   have hn1:Blk W1 W0.heap.size [.bool xl,.string ⟨xt.toArray⟩,.string ⟨xx.toArray⟩,.slice aa xa.length ac,.int .i64 xu,.slice ka xk.length kc,.bool xh,.slice sa xs.length sc,.bool xi] 65:=by rw [hW1];exact Blk.new' _ _ rfl _ _
   have hB1:Bel w W1:=by rw [hW1];exact HB0.o.alloc _
   rw [<- hW1]
   clear hW1 p0 p1 p2 p3 p4 p5 p6 p7 p8 x1 HX0 HB0
   have x0:=hx1.cell 0
   have x1:=hx1.cell 1
   have x2:=hx1.cell 2
   have x3:=hx1.cell 3
   have x4:=hx1.cell 4
   have x5:=hx1.cell 5
   have n0:=hn1.cell 0
   have n1:=hn1.cell 1
   have n2:=hn1.cell 2
   have n3:=hn1.cell 3
   have n4:=hn1.cell 4
   have n5:=hn1.cell 5
   have n6:=hn1.cell 6
   have n7:=hn1.cell 7
   have n8:=hn1.cell 8
   have fn:=hn1.frozen
   simp only [Ze,Zd] at x0 x1 x2 x3 x4 x5 n0 n1 n2 n3 n4 n5 n6 n7 n8
   have HB1:=lH hB1
   have HXB:=lH hx1
   have HNB:=lH hn1
   have hsz1:=hB1.size
   have hg1:=hx1.lt
   have hg2:=hn1.lt
   clear hB1 hx1 hn1
   go_wp2_with (first | (go_at_call 110;refine (HNO.o _ _).mono ?_;rintro e w1 ⟨rfl,rfl⟩) | (go_at_call 115;refine (cN.o _).mono ?_;rintro e w1 ⟨rfl,rfl⟩))
   go_ret3
   first | exact qQc.no HR.o HB1.o | exact qQc.no HR.o (HB1.o.alloc _)
 | true=>
   have cN:Hi (∀ W,Calls Tryz.prog 115 #[.string ⟨nm.toArray⟩] W (Rv (.bool true) W)):=lH (fun W=>hname▸qQx nm W hnm)
   cases xh with
   | false=>
     have HR:Hi (qQo d { kind:=9,node:=(p:Int),dest:=dest,before:=before,name:=nm,value:=value }=(8,0,[])):=lH (by
      unfold qQo;rw [if_neg (by simp [isTextK]),if_neg (by simp [isTextK,hname]),if_pos (by simp only [HX.o];simp [qV1])])
     unfold chgV
     go_enter Tryz.func68,Tryz.ntmps68
     go_upto_region 2 with fail
     obtain ⟨W0,hW0⟩:∃ W0:World,W0=w.alloc (.cells #[.int .i64 9,.int .i64 (p:Int),.int .i64 dest,.int .i64 before,.string ⟨nm.toArray⟩,.string ⟨value.toArray⟩] 40):=⟨_,rfl⟩
     have hx0:Blk W0 w.heap.size [.int .i64 9,.int .i64 (p:Int),.int .i64 dest,.int .i64 before,.string ⟨nm.toArray⟩,.string ⟨value.toArray⟩] 40:=by rw [hW0];exact Blk.new' _ _ rfl _ _
     have hB0:Bel w W0:=by rw [hW0];exact (Br w).alloc _
     rw [<- hW0]
     clear hW0
     have hbw:b<w.heap.size:=by omega
     replace p0:=(Bel.cells hB0 _ _ hbw).trans p0
     replace p1:=(Bel.cells hB0 _ _ hbw).trans p1
     replace p2:=(Bel.cells hB0 _ _ hbw).trans p2
     replace p3:=(Bel.cells hB0 _ _ hbw).trans p3
     replace p4:=(Bel.cells hB0 _ _ hbw).trans p4
     replace p5:=(Bel.cells hB0 _ _ hbw).trans p5
     replace p6:=(Bel.cells hB0 _ _ hbw).trans p6
     replace p7:=(Bel.cells hB0 _ _ hbw).trans p7
     replace p8:=(Bel.cells hB0 _ _ hbw).trans p8
     have x1:=hx0.cell 1
     simp only [Ze,Zd] at x1
     have HB0:=lH hB0
     have HX0:=lH hx0
     have hlt0:=hx0.lt
     clear hB0 hx0
     go_upto_region 3 with fail
     obtain ⟨W1,hW1⟩:∃ W1:World,W1=W0.alloc (.cells #[.bool xl,.string ⟨xt.toArray⟩,.string ⟨xx.toArray⟩,.slice aa xa.length ac,.int .i64 xu,.slice ka xk.length kc,.bool false,.slice sa xs.length sc,.bool xi] 65):=⟨_,rfl⟩
     have hx1:Blk W1 w.heap.size [.int .i64 9,.int .i64 (p:Int),.int .i64 dest,.int .i64 before,.string ⟨nm.toArray⟩,.string ⟨value.toArray⟩] 40:=by rw [hW1];exact HX0.o.bel ((Br W0).alloc _)
     have hn1:Blk W1 W0.heap.size [.bool xl,.string ⟨xt.toArray⟩,.string ⟨xx.toArray⟩,.slice aa xa.length ac,.int .i64 xu,.slice ka xk.length kc,.bool false,.slice sa xs.length sc,.bool xi] 65:=by rw [hW1];exact Blk.new' _ _ rfl _ _
     have hB1:Bel w W1:=by rw [hW1];exact HB0.o.alloc _
     rw [<- hW1]
     clear hW1 p0 p1 p2 p3 p4 p5 p6 p7 p8 x1 HX0 HB0
     have x0:=hx1.cell 0
     have x1:=hx1.cell 1
     have x2:=hx1.cell 2
     have x3:=hx1.cell 3
     have x4:=hx1.cell 4
     have x5:=hx1.cell 5
     have n0:=hn1.cell 0
     have n1:=hn1.cell 1
     have n2:=hn1.cell 2
     have n3:=hn1.cell 3
     have n4:=hn1.cell 4
     have n5:=hn1.cell 5
     have n6:=hn1.cell 6
     have n7:=hn1.cell 7
     have n8:=hn1.cell 8
     have fn:=hn1.frozen
     simp only [Ze,Zd] at x0 x1 x2 x3 x4 x5 n0 n1 n2 n3 n4 n5 n6 n7 n8
     have HB1:=lH hB1
     have HXB:=lH hx1
     have HNB:=lH hn1
     have hsz1:=hB1.size
     have hg1:=hx1.lt
     have hg2:=hn1.lt
     clear hB1 hx1 hn1
     go_wp2_with (first | (go_at_call 110;refine (HNO.o _ _).mono ?_;rintro e w1 ⟨rfl,rfl⟩) | (go_at_call 115;refine (cN.o _).mono ?_;rintro e w1 ⟨rfl,rfl⟩))
     go_ret3
     first | exact qQc.no HR.o HB1.o | exact qQc.no HR.o (HB1.o.alloc _)
   | true=>
     have hx':=qXv (x:={ kind:=9,node:=(p:Int),dest:=dest,before:=before,name:=nm,value:=value }) (t:=(p:Int)) (sh:=true) (fun h=>by simp [isTextK] at h) (fun h=>by exact hname)
     have hnew:qV9 { kind:=9,node:=(p:Int),dest:=dest,before:=before,name:=nm,value:=value }={ tag:=nm }:=rfl
     rw [hnew] at hx'
     obtain ⟨hok,hle⟩:=qVu (x:={ tag:=nm }) (t:=(p:Int)) (sh:=true) g.tree (qQ0.2 ⟨HI.o,by simp only [HX.o];exact htag⟩) (fun h=>by simp only [HX.o]) hx'.1 hx'.2.1 hx'.2.2
     have hfew:(listM (nd d (p:Int)) true).length<=12:=by obtain ⟨r,gr⟩:=g.tree;exact (gr.ok p).few true
     rw [<- hle] at hfew
     have hgr:=fun h=>(hok.tree' (before:=(-1)) h)
     have cM:Hi (∀ W,Bel w W->Calls Tryz.prog 117 #[.slice (some ⟨b,off,none⟩) d.length cap',.agg #[.bool false,.string ⟨nm.toArray⟩,.string ⟨#[]⟩,.slice none 0 0,.int .i64 0,.slice none 0 0,.bool false,.slice none 0 0,.bool false],.int .i64 (p:Int),.int .i64 (-1),.bool true] W (qQc W (qZd d { tag:=nm } p (-1) true))):=lH (fun W h=>
      qZ3 m _ d { tag:=nm } (.slice none 0 0) (.slice none 0 0) (.slice none 0 0) p (-1) true W (HV.o.later h hm) (Za hm h.size) (by omega) qQb.nil qQb.nil qQb.nil (qQ2 hok.to) hfew (fun h=>by obtain ⟨r,gr,hk,_⟩:=hgr h;exact qHq gr 100 _ hk (by omega)))
     clear hx' hnew hok hle hfew hgr g htag
     have HR:Hi (qQo d { kind:=9,node:=(p:Int),dest:=dest,before:=before,name:=nm,value:=value }=qZd d { tag:=nm } p (-1) true):=lH (by
      unfold qQo;rw [if_neg (by simp [isTextK]),if_neg (by simp [isTextK,hname]),if_neg (by simp only [HX.o];simp [qV1])];rfl)
     have hr2:qZd d { tag:=nm } p (-1) true=((qZd d { tag:=nm } p (-1) true).1,(qZd d { tag:=nm } p (-1) true).2.1,(qZd d { tag:=nm } p (-1) true).2.2):=rfl
     rw [hr2] at HR
     clear hr2
     generalize qZd d { tag:=nm } p (-1) true=R at *
     unfold chgV
     go_enter Tryz.func68,Tryz.ntmps68
     go_upto_region 2 with fail
     obtain ⟨W0,hW0⟩:∃ W0:World,W0=w.alloc (.cells #[.int .i64 9,.int .i64 (p:Int),.int .i64 dest,.int .i64 before,.string ⟨nm.toArray⟩,.string ⟨value.toArray⟩] 40):=⟨_,rfl⟩
     have hx0:Blk W0 w.heap.size [.int .i64 9,.int .i64 (p:Int),.int .i64 dest,.int .i64 before,.string ⟨nm.toArray⟩,.string ⟨value.toArray⟩] 40:=by rw [hW0];exact Blk.new' _ _ rfl _ _
     have hB0:Bel w W0:=by rw [hW0];exact (Br w).alloc _
     rw [<- hW0]
     clear hW0
     have hbw:b<w.heap.size:=by omega
     replace p0:=(Bel.cells hB0 _ _ hbw).trans p0
     replace p1:=(Bel.cells hB0 _ _ hbw).trans p1
     replace p2:=(Bel.cells hB0 _ _ hbw).trans p2
     replace p3:=(Bel.cells hB0 _ _ hbw).trans p3
     replace p4:=(Bel.cells hB0 _ _ hbw).trans p4
     replace p5:=(Bel.cells hB0 _ _ hbw).trans p5
     replace p6:=(Bel.cells hB0 _ _ hbw).trans p6
     replace p7:=(Bel.cells hB0 _ _ hbw).trans p7
     replace p8:=(Bel.cells hB0 _ _ hbw).trans p8
     have x1:=hx0.cell 1
     simp only [Ze,Zd] at x1
     have HB0:=lH hB0
     have HX0:=lH hx0
     have hlt0:=hx0.lt
     clear hB0 hx0
     go_upto_region 3 with fail
     obtain ⟨W1,hW1⟩:∃ W1:World,W1=W0.alloc (.cells #[.bool xl,.string ⟨xt.toArray⟩,.string ⟨xx.toArray⟩,.slice aa xa.length ac,.int .i64 xu,.slice ka xk.length kc,.bool true,.slice sa xs.length sc,.bool xi] 65):=⟨_,rfl⟩
     have hx1:Blk W1 w.heap.size [.int .i64 9,.int .i64 (p:Int),.int .i64 dest,.int .i64 before,.string ⟨nm.toArray⟩,.string ⟨value.toArray⟩] 40:=by rw [hW1];exact HX0.o.bel ((Br W0).alloc _)
     have hn1:Blk W1 W0.heap.size [.bool xl,.string ⟨xt.toArray⟩,.string ⟨xx.toArray⟩,.slice aa xa.length ac,.int .i64 xu,.slice ka xk.length kc,.bool true,.slice sa xs.length sc,.bool xi] 65:=by rw [hW1];exact Blk.new' _ _ rfl _ _
     have hB1:Bel w W1:=by rw [hW1];exact HB0.o.alloc _
     rw [<- hW1]
     clear hW1 p0 p1 p2 p3 p4 p5 p6 p7 p8 x1 HX0 HB0
     have x0:=hx1.cell 0
     have x1:=hx1.cell 1
     have x2:=hx1.cell 2
     have x3:=hx1.cell 3
     have x4:=hx1.cell 4
     have x5:=hx1.cell 5
     have n0:=hn1.cell 0
     have n1:=hn1.cell 1
     have n2:=hn1.cell 2
     have n3:=hn1.cell 3
     have n4:=hn1.cell 4
     have n5:=hn1.cell 5
     have n6:=hn1.cell 6
     have n7:=hn1.cell 7
     have n8:=hn1.cell 8
     have fn:=hn1.frozen
     simp only [Ze,Zd] at x0 x1 x2 x3 x4 x5 n0 n1 n2 n3 n4 n5 n6 n7 n8
     have HB1:=lH hB1
     have HXB:=lH hx1
     have HNB:=lH hn1
     have hsz1:=hB1.size
     have hg1:=hx1.lt
     have hg2:=hn1.lt
     clear hB1 hx1 hn1
     go_wp2_with (first | (go_at_call 110;refine (HNO.o _ _).mono ?_;rintro e w1 ⟨rfl,rfl⟩) | (go_at_call 115;refine (cN.o _).mono ?_;rintro e w1 ⟨rfl,rfl⟩) | (go_at_call 117;refine (cM.o _ (by first | exact HB1.o.alloc _ | exact (HB1.o.alloc _).alloc _)).mono ?_;rintro e wM ⟨bM,yM,rfl,uM,rfl,oM⟩;obtain ⟨y5,z5,rfl,_,_⟩:=Rf oM;have HBM:=lH (Bt (HB1.o.alloc _) bM);have HDM:=lH oM;clear bM oM))
     go_ret3
     exact qQc.any HR.o HBM.o HDM.o
theorem qV6 (m:Nat) (v:Value) (d:Dc) (x:Chg) (w:World) (hv:qQq m w v d) (hm:m<=w.heap.size) (hd:d.length<=60) (hk:x.kind=10) (hi:isM d x.node false=true) (hnm:x.name.length<=9223372036854775807) (hl:x.value.length<=9223372036854775807) (g:Good d) (htag0:(nd d x.node).tag≠[]) :
 Calls Tryz.prog 68 #[v,chgV x] w (qQc w (qQo d x)):=by
 obtain ⟨kind,node,dest,before,nm,value⟩:=x
 simp only at hk hi hl hnm
 subst hk
 obtain ⟨p,hpp,rfl,-⟩:=qZg.1 hi
 obtain ⟨b,off,cap',av,kv,sv,rfl,v1,v2,hbb,hP⟩:=hv.node p hpp
 have p0:=hP.live
 have p1:=hP.tag
 have p2:=hP.text
 have p3:=hP.atts
 have p4:=hP.up
 have p5:=hP.kids
 have p6:=hP.hasS
 have p7:=hP.shadow
 have p8:=hP.inS
 have PA:=lH hP.attsAt
 have PK:=lH hP.kidsAt
 have PS:=lH hP.shadowAt
 have HX:=lH (qQv hpp)
 have HI:=lH hi
 clear hP hi
 generalize hXX:d[p]=X at *
 obtain ⟨xl,xt,xx,xa,xu,xk,xh,xs,xi⟩:=X
 simp only at p0 p1 p2 p3 p4 p5 p6 p7 p8 PA PK PS
 obtain ⟨ka,kc,rfl,k1,k2⟩:=Rf PK.o
 obtain ⟨sa,sc,rfl,s1,s2⟩:=Rf PS.o
 obtain ⟨aa,ac,rfl,a1,a2⟩:=Rf PA.o
 have HV:=lH hv
 have HXX:=lH hXX
 clear hv hXX
 have HNO:=lH qQt
 have htag:xt≠[]:=by have:=htag0;simp only [HX.o] at this;exact this
 have hbt:xt.isEmpty=false:=by simpa using htag
 clear htag0
 by_cases hv60:60<value.length
 ·have HR:Hi (qQo d { kind:=10,node:=(p:Int),dest:=dest,before:=before,name:=nm,value:=value }=(4,0,[])):=lH (by
   unfold qQo;rw [if_pos (by simp [isTextK];omega)])
  unfold chgV
  go_enter Tryz.func68,Tryz.ntmps68
  go_upto_region 2 with fail
  obtain ⟨W0,hW0⟩:∃ W0:World,W0=w.alloc (.cells #[.int .i64 10,.int .i64 (p:Int),.int .i64 dest,.int .i64 before,.string ⟨nm.toArray⟩,.string ⟨value.toArray⟩] 40):=⟨_,rfl⟩
  have hx0:Blk W0 w.heap.size [.int .i64 10,.int .i64 (p:Int),.int .i64 dest,.int .i64 before,.string ⟨nm.toArray⟩,.string ⟨value.toArray⟩] 40:=by rw [hW0];exact Blk.new' _ _ rfl _ _
  have hB0:Bel w W0:=by rw [hW0];exact (Br w).alloc _
  rw [<- hW0]
  clear hW0
  have hbw:b<w.heap.size:=by omega
  replace p0:=(Bel.cells hB0 _ _ hbw).trans p0
  replace p1:=(Bel.cells hB0 _ _ hbw).trans p1
  replace p2:=(Bel.cells hB0 _ _ hbw).trans p2
  replace p3:=(Bel.cells hB0 _ _ hbw).trans p3
  replace p4:=(Bel.cells hB0 _ _ hbw).trans p4
  replace p5:=(Bel.cells hB0 _ _ hbw).trans p5
  replace p6:=(Bel.cells hB0 _ _ hbw).trans p6
  replace p7:=(Bel.cells hB0 _ _ hbw).trans p7
  replace p8:=(Bel.cells hB0 _ _ hbw).trans p8
  have x1:=hx0.cell 1
  simp only [Ze,Zd] at x1
  have HB0:=lH hB0
  have HX0:=lH hx0
  have hlt0:=hx0.lt
  clear hB0 hx0
  go_upto_region 3 with fail
  obtain ⟨W1,hW1⟩:∃ W1:World,W1=W0.alloc (.cells #[.bool xl,.string ⟨xt.toArray⟩,.string ⟨xx.toArray⟩,.slice aa xa.length ac,.int .i64 xu,.slice ka xk.length kc,.bool xh,.slice sa xs.length sc,.bool xi] 65):=⟨_,rfl⟩
  have hx1:Blk W1 w.heap.size [.int .i64 10,.int .i64 (p:Int),.int .i64 dest,.int .i64 before,.string ⟨nm.toArray⟩,.string ⟨value.toArray⟩] 40:=by rw [hW1];exact HX0.o.bel ((Br W0).alloc _)
  have hn1:Blk W1 W0.heap.size [.bool xl,.string ⟨xt.toArray⟩,.string ⟨xx.toArray⟩,.slice aa xa.length ac,.int .i64 xu,.slice ka xk.length kc,.bool xh,.slice sa xs.length sc,.bool xi] 65:=by rw [hW1];exact Blk.new' _ _ rfl _ _
  have hB1:Bel w W1:=by rw [hW1];exact HB0.o.alloc _
  rw [<- hW1]
  clear hW1 p0 p1 p2 p3 p4 p5 p6 p7 p8 x1 HX0 HB0
  have x0:=hx1.cell 0
  have x1:=hx1.cell 1
  have x2:=hx1.cell 2
  have x3:=hx1.cell 3
  have x4:=hx1.cell 4
  have x5:=hx1.cell 5
  have n0:=hn1.cell 0
  have n1:=hn1.cell 1
  have n2:=hn1.cell 2
  have n3:=hn1.cell 3
  have n4:=hn1.cell 4
  have n5:=hn1.cell 5
  have n6:=hn1.cell 6
  have n7:=hn1.cell 7
  have n8:=hn1.cell 8
  have fn:=hn1.frozen
  simp only [Ze,Zd] at x0 x1 x2 x3 x4 x5 n0 n1 n2 n3 n4 n5 n6 n7 n8
  have HB1:=lH hB1
  have HXB:=lH hx1
  have HNB:=lH hn1
  have hsz1:=hB1.size
  have hg1:=hx1.lt
  have hg2:=hn1.lt
  clear hB1 hx1 hn1
  go_wp2_with (first | (go_at_call 110;refine (HNO.o _ _).mono ?_;rintro e w1 ⟨rfl,rfl⟩))
  go_ret3
  first | exact qQc.no HR.o HB1.o | exact qQc.no HR.o (HB1.o.alloc _)
 ·cases xh with
  | false=>
    have HR:Hi (qQo d { kind:=10,node:=(p:Int),dest:=dest,before:=before,name:=nm,value:=value }=(8,0,[])):=lH (by
     unfold qQo;rw [if_neg (by simp [isTextK];omega),if_neg (by simp [isTextK]),if_pos (by simp only [HX.o];simp [qV1])])
    unfold chgV
    go_enter Tryz.func68,Tryz.ntmps68
    go_upto_region 2 with fail
    obtain ⟨W0,hW0⟩:∃ W0:World,W0=w.alloc (.cells #[.int .i64 10,.int .i64 (p:Int),.int .i64 dest,.int .i64 before,.string ⟨nm.toArray⟩,.string ⟨value.toArray⟩] 40):=⟨_,rfl⟩
    have hx0:Blk W0 w.heap.size [.int .i64 10,.int .i64 (p:Int),.int .i64 dest,.int .i64 before,.string ⟨nm.toArray⟩,.string ⟨value.toArray⟩] 40:=by rw [hW0];exact Blk.new' _ _ rfl _ _
    have hB0:Bel w W0:=by rw [hW0];exact (Br w).alloc _
    rw [<- hW0]
    clear hW0
    have hbw:b<w.heap.size:=by omega
    replace p0:=(Bel.cells hB0 _ _ hbw).trans p0
    replace p1:=(Bel.cells hB0 _ _ hbw).trans p1
    replace p2:=(Bel.cells hB0 _ _ hbw).trans p2
    replace p3:=(Bel.cells hB0 _ _ hbw).trans p3
    replace p4:=(Bel.cells hB0 _ _ hbw).trans p4
    replace p5:=(Bel.cells hB0 _ _ hbw).trans p5
    replace p6:=(Bel.cells hB0 _ _ hbw).trans p6
    replace p7:=(Bel.cells hB0 _ _ hbw).trans p7
    replace p8:=(Bel.cells hB0 _ _ hbw).trans p8
    have x1:=hx0.cell 1
    simp only [Ze,Zd] at x1
    have HB0:=lH hB0
    have HX0:=lH hx0
    have hlt0:=hx0.lt
    clear hB0 hx0
    go_upto_region 3 with fail
    obtain ⟨W1,hW1⟩:∃ W1:World,W1=W0.alloc (.cells #[.bool xl,.string ⟨xt.toArray⟩,.string ⟨xx.toArray⟩,.slice aa xa.length ac,.int .i64 xu,.slice ka xk.length kc,.bool false,.slice sa xs.length sc,.bool xi] 65):=⟨_,rfl⟩
    have hx1:Blk W1 w.heap.size [.int .i64 10,.int .i64 (p:Int),.int .i64 dest,.int .i64 before,.string ⟨nm.toArray⟩,.string ⟨value.toArray⟩] 40:=by rw [hW1];exact HX0.o.bel ((Br W0).alloc _)
    have hn1:Blk W1 W0.heap.size [.bool xl,.string ⟨xt.toArray⟩,.string ⟨xx.toArray⟩,.slice aa xa.length ac,.int .i64 xu,.slice ka xk.length kc,.bool false,.slice sa xs.length sc,.bool xi] 65:=by rw [hW1];exact Blk.new' _ _ rfl _ _
    have hB1:Bel w W1:=by rw [hW1];exact HB0.o.alloc _
    rw [<- hW1]
    clear hW1 p0 p1 p2 p3 p4 p5 p6 p7 p8 x1 HX0 HB0
    have x0:=hx1.cell 0
    have x1:=hx1.cell 1
    have x2:=hx1.cell 2
    have x3:=hx1.cell 3
    have x4:=hx1.cell 4
    have x5:=hx1.cell 5
    have n0:=hn1.cell 0
    have n1:=hn1.cell 1
    have n2:=hn1.cell 2
    have n3:=hn1.cell 3
    have n4:=hn1.cell 4
    have n5:=hn1.cell 5
    have n6:=hn1.cell 6
    have n7:=hn1.cell 7
    have n8:=hn1.cell 8
    have fn:=hn1.frozen
    simp only [Ze,Zd] at x0 x1 x2 x3 x4 x5 n0 n1 n2 n3 n4 n5 n6 n7 n8
    have HB1:=lH hB1
    have HXB:=lH hx1
    have HNB:=lH hn1
    have hsz1:=hB1.size
    have hg1:=hx1.lt
    have hg2:=hn1.lt
    clear hB1 hx1 hn1
    go_wp2_with (first | (go_at_call 110;refine (HNO.o _ _).mono ?_;rintro e w1 ⟨rfl,rfl⟩))
    go_ret3
    first | exact qQc.no HR.o HB1.o | exact qQc.no HR.o (HB1.o.alloc _)
  | true=>
    have hx':=qXv (x:={ kind:=10,node:=(p:Int),dest:=dest,before:=before,name:=nm,value:=value }) (t:=(p:Int)) (sh:=true) (fun h=>by simp;omega) (fun h=>by simp [isTextK] at h)
    have hnew:qV9 { kind:=10,node:=(p:Int),dest:=dest,before:=before,name:=nm,value:=value }={ text:=value }:=rfl
    rw [hnew] at hx'
    obtain ⟨hok,hle⟩:=qVu (x:={ text:=value }) (t:=(p:Int)) (sh:=true) g.tree (qQ0.2 ⟨HI.o,by simp only [HX.o];exact htag⟩) (fun h=>by simp only [HX.o]) hx'.1 hx'.2.1 hx'.2.2
    have hfew:(listM (nd d (p:Int)) true).length<=12:=by obtain ⟨r,gr⟩:=g.tree;exact (gr.ok p).few true
    rw [<- hle] at hfew
    have hgr:=fun h=>(hok.tree' (before:=(-1)) h)
    have cM:Hi (∀ W,Bel w W->Calls Tryz.prog 117 #[.slice (some ⟨b,off,none⟩) d.length cap',.agg #[.bool false,.string ⟨#[]⟩,.string ⟨value.toArray⟩,.slice none 0 0,.int .i64 0,.slice none 0 0,.bool false,.slice none 0 0,.bool false],.int .i64 (p:Int),.int .i64 (-1),.bool true] W (qQc W (qZd d { text:=value } p (-1) true))):=lH (fun W h=>
     qZ3 m _ d { text:=value } (.slice none 0 0) (.slice none 0 0) (.slice none 0 0) p (-1) true W (HV.o.later h hm) (Za hm h.size) (by omega) qQb.nil qQb.nil qQb.nil (qQ2 hok.to) hfew (fun h=>by obtain ⟨r,gr,hk,_⟩:=hgr h;exact qHq gr 100 _ hk (by omega)))
    clear hx' hnew hok hle hfew hgr g htag
    have HR:Hi (qQo d { kind:=10,node:=(p:Int),dest:=dest,before:=before,name:=nm,value:=value }=qZd d { text:=value } p (-1) true):=lH (by
     unfold qQo;rw [if_neg (by simp [isTextK];omega),if_neg (by simp [isTextK]),if_neg (by simp only [HX.o];simp [qV1])];rfl)
    have hr2:qZd d { text:=value } p (-1) true=((qZd d { text:=value } p (-1) true).1,(qZd d { text:=value } p (-1) true).2.1,(qZd d { text:=value } p (-1) true).2.2):=rfl
    rw [hr2] at HR
    clear hr2
    generalize qZd d { text:=value } p (-1) true=R at *
    unfold chgV
    go_enter Tryz.func68,Tryz.ntmps68
    go_upto_region 2 with fail
    obtain ⟨W0,hW0⟩:∃ W0:World,W0=w.alloc (.cells #[.int .i64 10,.int .i64 (p:Int),.int .i64 dest,.int .i64 before,.string ⟨nm.toArray⟩,.string ⟨value.toArray⟩] 40):=⟨_,rfl⟩
    have hx0:Blk W0 w.heap.size [.int .i64 10,.int .i64 (p:Int),.int .i64 dest,.int .i64 before,.string ⟨nm.toArray⟩,.string ⟨value.toArray⟩] 40:=by rw [hW0];exact Blk.new' _ _ rfl _ _
    have hB0:Bel w W0:=by rw [hW0];exact (Br w).alloc _
    rw [<- hW0]
    clear hW0
    have hbw:b<w.heap.size:=by omega
    replace p0:=(Bel.cells hB0 _ _ hbw).trans p0
    replace p1:=(Bel.cells hB0 _ _ hbw).trans p1
    replace p2:=(Bel.cells hB0 _ _ hbw).trans p2
    replace p3:=(Bel.cells hB0 _ _ hbw).trans p3
    replace p4:=(Bel.cells hB0 _ _ hbw).trans p4
    replace p5:=(Bel.cells hB0 _ _ hbw).trans p5
    replace p6:=(Bel.cells hB0 _ _ hbw).trans p6
    replace p7:=(Bel.cells hB0 _ _ hbw).trans p7
    replace p8:=(Bel.cells hB0 _ _ hbw).trans p8
    have x1:=hx0.cell 1
    simp only [Ze,Zd] at x1
    have HB0:=lH hB0
    have HX0:=lH hx0
    have hlt0:=hx0.lt
    clear hB0 hx0
    go_upto_region 3 with fail
    obtain ⟨W1,hW1⟩:∃ W1:World,W1=W0.alloc (.cells #[.bool xl,.string ⟨xt.toArray⟩,.string ⟨xx.toArray⟩,.slice aa xa.length ac,.int .i64 xu,.slice ka xk.length kc,.bool true,.slice sa xs.length sc,.bool xi] 65):=⟨_,rfl⟩
    have hx1:Blk W1 w.heap.size [.int .i64 10,.int .i64 (p:Int),.int .i64 dest,.int .i64 before,.string ⟨nm.toArray⟩,.string ⟨value.toArray⟩] 40:=by rw [hW1];exact HX0.o.bel ((Br W0).alloc _)
    have hn1:Blk W1 W0.heap.size [.bool xl,.string ⟨xt.toArray⟩,.string ⟨xx.toArray⟩,.slice aa xa.length ac,.int .i64 xu,.slice ka xk.length kc,.bool true,.slice sa xs.length sc,.bool xi] 65:=by rw [hW1];exact Blk.new' _ _ rfl _ _
    have hB1:Bel w W1:=by rw [hW1];exact HB0.o.alloc _
    rw [<- hW1]
    clear hW1 p0 p1 p2 p3 p4 p5 p6 p7 p8 x1 HX0 HB0
    have x0:=hx1.cell 0
    have x1:=hx1.cell 1
    have x2:=hx1.cell 2
    have x3:=hx1.cell 3
    have x4:=hx1.cell 4
    have x5:=hx1.cell 5
    have n0:=hn1.cell 0
    have n1:=hn1.cell 1
    have n2:=hn1.cell 2
    have n3:=hn1.cell 3
    have n4:=hn1.cell 4
    have n5:=hn1.cell 5
    have n6:=hn1.cell 6
    have n7:=hn1.cell 7
    have n8:=hn1.cell 8
    have fn:=hn1.frozen
    simp only [Ze,Zd] at x0 x1 x2 x3 x4 x5 n0 n1 n2 n3 n4 n5 n6 n7 n8
    have HB1:=lH hB1
    have HXB:=lH hx1
    have HNB:=lH hn1
    have hsz1:=hB1.size
    have hg1:=hx1.lt
    have hg2:=hn1.lt
    clear hB1 hx1 hn1
    go_wp2_with (first | (go_at_call 110;refine (HNO.o _ _).mono ?_;rintro e w1 ⟨rfl,rfl⟩) | (go_at_call 117;refine (cM.o _ (by first | exact HB1.o.alloc _ | exact (HB1.o.alloc _).alloc _)).mono ?_;rintro e wM ⟨bM,yM,rfl,uM,rfl,oM⟩;obtain ⟨y5,z5,rfl,_,_⟩:=Rf oM;have HBM:=lH (Bt (HB1.o.alloc _) bM);have HDM:=lH oM;clear bM oM))
    go_ret3
    exact qQc.any HR.o HBM.o HDM.o
end Go.Proofs.YtklbmkaomojciaaGreat
