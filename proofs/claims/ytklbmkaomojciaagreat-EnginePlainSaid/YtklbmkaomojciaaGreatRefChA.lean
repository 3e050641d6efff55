/- Changes of a document: the document's answer, walked: a text, attributes, a shadow tree. -/
import Derived.Test.YtklbmkaomojciaaGreatRefChange0
set_option maxRecDepth 100000
set_option maxHeartbeats 4000000
namespace Go.Proofs.YtklbmkaomojciaaGreat
open Go.RowKit
theorem qBd (m:Nat) (v:Value) (d:Dc) (x:Chg) (w:World) (hv:qQq m w v d) (hm:m<=w.heap.size) (hd:d.length<=60) (hk:x.kind=7) (hi:isM d x.node false=true) (hnm:x.name.length<=9223372036854775807) (hl:x.value.length<=9223372036854775807) :
 Calls Tryz.prog 68 #[v,chgV x] w (qQc w (sayM d x)):=by
 obtain ⟨kind,node,dest,before,nm,value⟩:=x
 simp only at hk hi hl hnm
 subst hk
 obtain ⟨p,hpp,rfl,-⟩:=qZg.1 hi
 obtain ⟨b,off,cap',av,kv,sv,rfl,v1,v2,hbb,hP⟩:=hv.node p hpp
 have p0:=hP.live
 have p1:=hP.tag
 have p2:=hP.text
 have p3:=hP.atts
 have p4:=hP.up
 have p5:=hP.kids
 have p6:=hP.hasS
 have p7:=hP.shadow
 have p8:=hP.inS
 have PA:=lH hP.attsAt
 have PK:=lH hP.kidsAt
 have PS:=lH hP.shadowAt
 have HX:=lH (qQv hpp)
 have HI:=lH hi
 clear hP hi
 generalize hXX:d[p]=X at *
 obtain ⟨xl,xt,xx,xa,xu,xk,xh,xs,xi⟩:=X
 simp only at p0 p1 p2 p3 p4 p5 p6 p7 p8 PA PK PS
 obtain ⟨ka,kc,rfl,k1,k2⟩:=Rf PK.o
 obtain ⟨sa,sc,rfl,s1,s2⟩:=Rf PS.o
 obtain ⟨aa,ac,rfl,a1,a2⟩:=Rf PA.o
 have HV:=lH hv
 have HXX:=lH hXX
 clear hv hXX
 have HNO:=lH qQt
 by_cases ht:xt=[]
 ·subst ht
  by_cases hv60:value.length<=60
  ·have HR:Hi (sayM d { kind:=7,node:=(p:Int),dest:=dest,before:=before,name:=nm,value:=value }=(0,(p:Int),qQn d p { live:=xl,tag:=[],text:=value,attrs:=xa,up:=xu,kids:=xk,hasS:=xh,shadow:=xs,inS:=xi })):=lH (by
    unfold sayM;rw [if_neg (by simp only [HX.o];simp;omega)];simp only [HX.o];rfl)
   unfold chgV
   go_enter Tryz.func68,Tryz.ntmps68
   go_upto_region 2 with fail
   obtain ⟨W0,hW0⟩:∃ W0:World,W0=w.alloc (.cells #[.int .i64 7,.int .i64 (p:Int),.int .i64 dest,.int .i64 before,.string ⟨nm.toArray⟩,.string ⟨value.toArray⟩] 40):=⟨_,rfl⟩
   have hx0:Blk W0 w.heap.size [.int .i64 7,.int .i64 (p:Int),.int .i64 dest,.int .i64 before,.string ⟨nm.toArray⟩,.string ⟨value.toArray⟩] 40:=by rw [hW0];exact Blk.new' _ _ rfl _ _
   have hB0:Bel w W0:=by rw [hW0];exact (Br w).alloc _
   rw [<- hW0]
   clear hW0
   have hbw:b<w.heap.size:=by omega
   replace p0:=(Bel.cells hB0 _ _ hbw).trans p0
   replace p1:=(Bel.cells hB0 _ _ hbw).trans p1
   replace p2:=(Bel.cells hB0 _ _ hbw).trans p2
   replace p3:=(Bel.cells hB0 _ _ hbw).trans p3
   replace p4:=(Bel.cells hB0 _ _ hbw).trans p4
   replace p5:=(Bel.cells hB0 _ _ hbw).trans p5
   replace p6:=(Bel.cells hB0 _ _ hbw).trans p6
   replace p7:=(Bel.cells hB0 _ _ hbw).trans p7
   replace p8:=(Bel.cells hB0 _ _ hbw).trans p8
   have x1:=hx0.cell 1
   simp only [Ze,Zd] at x1
   have HB0:=lH hB0
   have HX0:=lH hx0
   have hlt0:=hx0.lt
   clear hB0 hx0
   go_upto_region 3 with fail
   obtain ⟨W1,hW1⟩:∃ W1:World,W1=W0.alloc (.cells #[.bool xl,.string ⟨([]:Txt).toArray⟩,.string ⟨xx.toArray⟩,.slice aa xa.length ac,.int .i64 xu,.slice ka xk.length kc,.bool xh,.slice sa xs.length sc,.bool xi] 65):=⟨_,rfl⟩
   have hx1:Blk W1 w.heap.size [.int .i64 7,.int .i64 (p:Int),.int .i64 dest,.int .i64 before,.string ⟨nm.toArray⟩,.string ⟨value.toArray⟩] 40:=by rw [hW1];exact HX0.o.bel ((Br W0).alloc _)
   have hn1:Blk W1 W0.heap.size [.bool xl,.string ⟨([]:Txt).toArray⟩,.string ⟨xx.toArray⟩,.slice aa xa.length ac,.int .i64 xu,.slice ka xk.length kc,.bool xh,.slice sa xs.length sc,.bool xi] 65:=by rw [hW1];exact Blk.new' _ _ rfl _ _
   have hB1:Bel w W1:=by rw [hW1];exact HB0.o.alloc _
   rw [<- hW1]
   clear hW1 p0 p1 p2 p3 p4 p5 p6 p7 p8 x1 HX0 HB0
   have x0:=hx1.cell 0
   have x1:=hx1.cell 1
   have x2:=hx1.cell 2
   have x3:=hx1.cell 3
   have x4:=hx1.cell 4
   have x5:=hx1.cell 5
   have n0:=hn1.cell 0
   have n1:=hn1.cell 1
   have n2:=hn1.cell 2
   have n3:=hn1.cell 3
   have n4:=hn1.cell 4
   have n5:=hn1.cell 5
   have n6:=hn1.cell 6
   have n7:=hn1.cell 7
   have n8:=hn1.cell 8
   have fn:=hn1.frozen
   simp only [Ze,Zd] at x0 x1 x2 x3 x4 x5 n0 n1 n2 n3 n4 n5 n6 n7 n8
   have HB1:=lH hB1
   have HXB:=lH hx1
   have HNB:=lH hn1
   have hsz1:=hB1.size
   have hg1:=hx1.lt
   have hg2:=hn1.lt
   clear hB1 hx1 hn1
   go_upto_region 30 with (go_at_call 110;refine (HNO.o _ _).mono ?_;rintro e w1 ⟨rfl,rfl⟩)
   refine qKj (E:=fun W=>Bel w W/\Blk W w.heap.size [.int .i64 7,.int .i64 (p:Int),.int .i64 dest,.int .i64 before,.string ⟨nm.toArray⟩,.string ⟨value.toArray⟩] 40/\qH5 W.heap.size W W0.heap.size { live:=xl,tag:=[],text:=value,attrs:=xa,up:=xu,kids:=xk,hasS:=xh,shadow:=xs,inS:=xi } (.slice aa xa.length ac) (.slice ka xk.length kc) (.slice sa xs.length sc)) ?_ ?_
   ·exact ⟨HB1.o.setCell _ _ _ (by omega),HXB.o.other _ _ (by simp;omega),HNB.o.set 2 _,qZy.up PA.o (HB1.o.setCell _ _ _ (by omega)) hm,qQ6.up PK.o (HB1.o.setCell _ _ _ (by omega)) hm,qQ6.up PS.o (HB1.o.setCell _ _ _ (by omega)) hm⟩
   rintro W2 ⟨hB2,hX2,hN2,hA2,hK2,hS2⟩
   clear x0 x1 x2 x3 x4 x5 n0 n1 n2 n3 n4 n5 n6 n7 n8 fn
   have x1:=hX2.cell 1
   have n0:=hN2.cell 0
   have n1:=hN2.cell 1
   have n2:=hN2.cell 2
   have n3:=hN2.cell 3
   have n4:=hN2.cell 4
   have n5:=hN2.cell 5
   have n6:=hN2.cell 6
   have n7:=hN2.cell 7
   have n8:=hN2.cell 8
   simp only [Ze,Zd] at x1 n0 n1 n2 n3 n4 n5 n6 n7 n8
   have cW:=lH (qQw W2.heap.size _ d p { live:=xl,tag:=[],text:=value,attrs:=xa,up:=xu,kids:=xk,hasS:=xh,shadow:=xs,inS:=xi } _ _ _ W2.drew (HV.o.up hB2 hm) (Zb _) (by omega) (by omega) hA2 hK2 hS2)
   have HS:Hi (∀ W,Bel W2 W->W.cell? ⟨w.heap.size,1,none⟩=some (.int .i64 (p:Int))/\W.cell? ⟨W0.heap.size,0,none⟩=some (.bool xl)/\W.cell? ⟨W0.heap.size,1,none⟩=some (.string ⟨([]:Txt).toArray⟩)/\W.cell? ⟨W0.heap.size,2,none⟩=some (.string ⟨(value:Txt).toArray⟩)/\W.cell? ⟨W0.heap.size,3,none⟩=some (.slice aa xa.length ac)/\W.cell? ⟨W0.heap.size,4,none⟩=some (.int .i64 xu)/\W.cell? ⟨W0.heap.size,5,none⟩=some (.slice ka xk.length kc)/\W.cell? ⟨W0.heap.size,6,none⟩=some (.bool xh)/\W.cell? ⟨W0.heap.size,7,none⟩=some (.slice sa xs.length sc)/\W.cell? ⟨W0.heap.size,8,none⟩=some (.bool xi)):=lH (fun W hb=>⟨(hX2.bel hb).cell 1,(hN2.bel hb).cell 0,(hN2.bel hb).cell 1,(hN2.bel hb).cell 2,(hN2.bel hb).cell 3,(hN2.bel hb).cell 4,(hN2.bel hb).cell 5,(hN2.bel hb).cell 6,(hN2.bel hb).cell 7,(hN2.bel hb).cell 8⟩)
   have HB2:=lH hB2
   clear hB2 hX2 hN2 hA2 hK2 hS2
   go_region_held (fun w'=>w'.cell? ⟨w.heap.size,1,none⟩=some (.int .i64 (p:Int))/\w'.cell? ⟨W0.heap.size,0,none⟩=some (.bool xl)/\w'.cell? ⟨W0.heap.size,1,none⟩=some (.string ⟨([]:Txt).toArray⟩)/\w'.cell? ⟨W0.heap.size,2,none⟩=some (.string ⟨(value:Txt).toArray⟩)/\w'.cell? ⟨W0.heap.size,3,none⟩=some (.slice aa xa.length ac)/\w'.cell? ⟨W0.heap.size,4,none⟩=some (.int .i64 xu)/\w'.cell? ⟨W0.heap.size,5,none⟩=some (.slice ka xk.length kc)/\w'.cell? ⟨W0.heap.size,6,none⟩=some (.bool xh)/\w'.cell? ⟨W0.heap.size,7,none⟩=some (.slice sa xs.length sc)/\w'.cell? ⟨W0.heap.size,8,none⟩=some (.bool xi)) (first | exact HS.o _ (Br W2).drew | exact HS.o _ HB24.o) (first | (go_at_call 114;refine cW.o.mono ?_;rintro e w4 ⟨b4,x4,rfl,o4⟩;obtain ⟨y4,z4,rfl,_,_⟩:=Rf o4;have HB24:=lH (Bt (Br W2).drew b4);have HB4:=lH (Bt HB2.o.drew b4);have HD4:=lH o4;clear b4 o4))
   all_goals
    go_wp2_with fail
    go_ret3
    exact qQc.yes HR.o HB4.o HD4.o
  ·have HR:Hi (sayM d { kind:=7,node:=(p:Int),dest:=dest,before:=before,name:=nm,value:=value }=(8,0,[])):=lH (by
    unfold sayM;rw [if_pos (by simp only [HX.o];simp;omega)])
   unfold chgV
   go_enter Tryz.func68,Tryz.ntmps68
   go_upto_region 2 with fail
   obtain ⟨W0,hW0⟩:∃ W0:World,W0=w.alloc (.cells #[.int .i64 7,.int .i64 (p:Int),.int .i64 dest,.int .i64 before,.string ⟨nm.toArray⟩,.string ⟨value.toArray⟩] 40):=⟨_,rfl⟩
   have hx0:Blk W0 w.heap.size [.int .i64 7,.int .i64 (p:Int),.int .i64 dest,.int .i64 before,.string ⟨nm.toArray⟩,.string ⟨value.toArray⟩] 40:=by rw [hW0];exact Blk.new' _ _ rfl _ _
   have hB0:Bel w W0:=by rw [hW0];exact (Br w).alloc _
   rw [<- hW0]
   clear hW0
   have hbw:b<w.heap.size:=by omega
   replace p0:=(Bel.cells hB0 _ _ hbw).trans p0
   replace p1:=(Bel.cells hB0 _ _ hbw).trans p1
   replace p2:=(Bel.cells hB0 _ _ hbw).trans p2
   replace p3:=(Bel.cells hB0 _ _ hbw).trans p3
   replace p4:=(Bel.cells hB0 _ _ hbw).trans p4
   replace p5:=(Bel.cells hB0 _ _ hbw).trans p5
   replace p6:=(Bel.cells hB0 _ _ hbw).trans p6
   replace p7:=(Bel.cells hB0 _ _ hbw).trans p7
   replace p8:=(Bel.cells hB0 _ _ hbw).trans p8
   have x1:=hx0.cell 1
   simp only [Ze,Zd] at x1
   have HB0:=lH hB0
   have HX0:=lH hx0
   have hlt0:=hx0.lt
   clear hB0 hx0
   go_upto_region 3 with fail
   obtain ⟨W1,hW1⟩:∃ W1:World,W1=W0.alloc (.cells #[.bool xl,.string ⟨([]:Txt).toArray⟩,.string ⟨xx.toArray⟩,.slice aa xa.length ac,.int .i64 xu,.slice ka xk.length kc,.bool xh,.slice sa xs.length sc,.bool xi] 65):=⟨_,rfl⟩
   have hx1:Blk W1 w.heap.size [.int .i64 7,.int .i64 (p:Int),.int .i64 dest,.int .i64 before,.string ⟨nm.toArray⟩,.string ⟨value.toArray⟩] 40:=by rw [hW1];exact HX0.o.bel ((Br W0).alloc _)
   have hn1:Blk W1 W0.heap.size [.bool xl,.string ⟨([]:Txt).toArray⟩,.string ⟨xx.toArray⟩,.slice aa xa.length ac,.int .i64 xu,.slice ka xk.length kc,.bool xh,.slice sa xs.length sc,.bool xi] 65:=by rw [hW1];exact Blk.new' _ _ rfl _ _
   have hB1:Bel w W1:=by rw [hW1];exact HB0.o.alloc _
   rw [<- hW1]
   clear hW1 p0 p1 p2 p3 p4 p5 p6 p7 p8 x1 HX0 HB0
   have x0:=hx1.cell 0
   have x1:=hx1.cell 1
   have x2:=hx1.cell 2
   have x3:=hx1.cell 3
   have x4:=hx1.cell 4
   have x5:=hx1.cell 5
   have n0:=hn1.cell 0
   have n1:=hn1.cell 1
   have n2:=hn1.cell 2
   have n3:=hn1.cell 3
   have n4:=hn1.cell 4
   have n5:=hn1.cell 5
   have n6:=hn1.cell 6
   have n7:=hn1.cell 7
   have n8:=hn1.cell 8
   have fn:=hn1.frozen
   simp only [Ze,Zd] at x0 x1 x2 x3 x4 x5 n0 n1 n2 n3 n4 n5 n6 n7 n8
   have HB1:=lH hB1
   have HXB:=lH hx1
   have HNB:=lH hn1
   have hsz1:=hB1.size
   have hg1:=hx1.lt
   have hg2:=hn1.lt
   clear hB1 hx1 hn1
   go_wp2_with (first | (go_at_call 110;refine (HNO.o _ _).mono ?_;rintro e w1 ⟨rfl,rfl⟩))
   go_ret3
   first | exact qQc.no HR.o HB1.o | exact qQc.no HR.o (HB1.o.alloc _)
 ·have hb:xt.isEmpty=false:=by simpa using ht
  have HR:Hi (sayM d { kind:=7,node:=(p:Int),dest:=dest,before:=before,name:=nm,value:=value }=(8,0,[])):=lH (by
   unfold sayM;rw [if_pos (by simp only [HX.o];simp [ht])])
  unfold chgV
  go_enter Tryz.func68,Tryz.ntmps68
  go_upto_region 2 with fail
  obtain ⟨W0,hW0⟩:∃ W0:World,W0=w.alloc (.cells #[.int .i64 7,.int .i64 (p:Int),.int .i64 dest,.int .i64 before,.string ⟨nm.toArray⟩,.string ⟨value.toArray⟩] 40):=⟨_,rfl⟩
  have hx0:Blk W0 w.heap.size [.int .i64 7,.int .i64 (p:Int),.int .i64 dest,.int .i64 before,.string ⟨nm.toArray⟩,.string ⟨value.toArray⟩] 40:=by rw [hW0];exact Blk.new' _ _ rfl _ _
  have hB0:Bel w W0:=by rw [hW0];exact (Br w).alloc _
  rw [<- hW0]
  clear hW0
  have hbw:b<w.heap.size:=by omega
  replace p0:=(Bel.cells hB0 _ _ hbw).trans p0
  replace p1:=(Bel.cells hB0 _ _ hbw).trans p1
  replace p2:=(Bel.cells hB0 _ _ hbw).trans p2
  replace p3:=(Bel.cells hB0 _ _ hbw).trans p3
  replace p4:=(Bel.cells hB0 _ _ hbw).trans p4
  replace p5:=(Bel.cells hB0 _ _ hbw).trans p5
  replace p6:=(Bel.cells hB0 _ _ hbw).trans p6
  replace p7:=(Bel.cells hB0 _ _ hbw).trans p7
  replace p8:=(Bel.cells hB0 _ _ hbw).trans p8
  have x1:=hx0.cell 1
  simp only [Ze,Zd] at x1
  have HB0:=lH hB0
  have HX0:=lH hx0
  have hlt0:=hx0.lt
  clear hB0 hx0
  go_upto_region 3 with fail
  obtain ⟨W1,hW1⟩:∃ W1:World,W1=W0.alloc (.cells #[.bool xl,.string ⟨xt.toArray⟩,.string ⟨xx.toArray⟩,.slice aa xa.length ac,.int .i64 xu,.slice ka xk.length kc,.bool xh,.slice sa xs.length sc,.bool xi] 65):=⟨_,rfl⟩
  have hx1:Blk W1 w.heap.size [.int .i64 7,.int .i64 (p:Int),.int .i64 dest,.int .i64 before,.string ⟨nm.toArray⟩,.string ⟨value.toArray⟩] 40:=by rw [hW1];exact HX0.o.bel ((Br W0).alloc _)
  have hn1:Blk W1 W0.heap.size [.bool xl,.string ⟨xt.toArray⟩,.string ⟨xx.toArray⟩,.slice aa xa.length ac,.int .i64 xu,.slice ka xk.length kc,.bool xh,.slice sa xs.length sc,.bool xi] 65:=by rw [hW1];exact Blk.new' _ _ rfl _ _
  have hB1:Bel w W1:=by rw [hW1];exact HB0.o.alloc _
  rw [<- hW1]
  clear hW1 p0 p1 p2 p3 p4 p5 p6 p7 p8 x1 HX0 HB0
  have x0:=hx1.cell 0
  have x1:=hx1.cell 1
  have x2:=hx1.cell 2
  have x3:=hx1.cell 3
  have x4:=hx1.cell 4
  have x5:=hx1.cell 5
  have n0:=hn1.cell 0
  have n1:=hn1.cell 1
  have n2:=hn1.cell 2
  have n3:=hn1.cell 3
  have n4:=hn1.cell 4
  have n5:=hn1.cell 5
  have n6:=hn1.cell 6
  have n7:=hn1.cell 7
  have n8:=hn1.cell 8
  have fn:=hn1.frozen
  simp only [Ze,Zd] at x0 x1 x2 x3 x4 x5 n0 n1 n2 n3 n4 n5 n6 n7 n8
  have HB1:=lH hB1
  have HXB:=lH hx1
  have HNB:=lH hn1
  have hsz1:=hB1.size
  have hg1:=hx1.lt
  have hg2:=hn1.lt
  clear hB1 hx1 hn1
  go_wp2_with (first | (go_at_call 110;refine (HNO.o _ _).mono ?_;rintro e w1 ⟨rfl,rfl⟩))
  go_ret3
  first | exact qQc.no HR.o HB1.o | exact qQc.no HR.o (HB1.o.alloc _)
theorem qV8 (m:Nat) (v:Value) (d:Dc) (x:Chg) (w:World) (hv:qQq m w v d) (hm:m<=w.heap.size) (_:d.length<=60) (hk:0<=x.kind+1) (hi:isM d x.node false=true) (hnm:x.name.length<=9223372036854775807) (hl:x.value.length<=9223372036854775807) (h3:(x.kind==3)=false) (h4:(x.kind==4)=false) (h7:(x.kind==7)=false) (htag0:(nd d x.node).tag=[]) :
 Calls Tryz.prog 68 #[v,chgV x] w (qQc w ((8,0,[]))):=by
 obtain ⟨kind,node,dest,before,nm,value⟩:=x
 simp only at hk hi hl hnm
 obtain ⟨p,hpp,rfl,-⟩:=qZg.1 hi
 obtain ⟨b,off,cap',av,kv,sv,rfl,v1,v2,hbb,hP⟩:=hv.node p hpp
 have p0:=hP.live
 have p1:=hP.tag
 have p2:=hP.text
 have p3:=hP.atts
 have p4:=hP.up
 have p5:=hP.kids
 have p6:=hP.hasS
 have p7:=hP.shadow
 have p8:=hP.inS
 have PA:=lH hP.attsAt
 have PK:=lH hP.kidsAt
 have PS:=lH hP.shadowAt
 have HX:=lH (qQv hpp)
 have HI:=lH hi
 clear hP hi
 generalize hXX:d[p]=X at *
 obtain ⟨xl,xt,xx,xa,xu,xk,xh,xs,xi⟩:=X
 simp only at p0 p1 p2 p3 p4 p5 p6 p7 p8 PA PK PS
 obtain ⟨ka,kc,rfl,k1,k2⟩:=Rf PK.o
 obtain ⟨sa,sc,rfl,s1,s2⟩:=Rf PS.o
 obtain ⟨aa,ac,rfl,a1,a2⟩:=Rf PA.o
 have HV:=lH hv
 have HXX:=lH hXX
 clear hv hXX
 have HNO:=lH qQt
 simp only at h3 h4 h7
 have htag:xt=[]:=by have:=htag0;simp only [HX.o] at this;exact this
 subst htag
 clear htag0
 unfold chgV
 go_enter Tryz.func68,Tryz.ntmps68
 go_upto_region 2 with fail
 obtain ⟨W0,hW0⟩:∃ W0:World,W0=w.alloc (.cells #[.int .i64 kind,.int .i64 (p:Int),.int .i64 dest,.int .i64 before,.string ⟨nm.toArray⟩,.string ⟨value.toArray⟩] 40):=⟨_,rfl⟩
 have hx0:Blk W0 w.heap.size [.int .i64 kind,.int .i64 (p:Int),.int .i64 dest,.int .i64 before,.string ⟨nm.toArray⟩,.string ⟨value.toArray⟩] 40:=by rw [hW0];exact Blk.new' _ _ rfl _ _
 have hB0:Bel w W0:=by rw [hW0];exact (Br w).alloc _
 rw [<- hW0]
 clear hW0
 have hbw:b<w.heap.size:=by omega
 replace p0:=(Bel.cells hB0 _ _ hbw).trans p0
 replace p1:=(Bel.cells hB0 _ _ hbw).trans p1
 replace p2:=(Bel.cells hB0 _ _ hbw).trans p2
 replace p3:=(Bel.cells hB0 _ _ hbw).trans p3
 replace p4:=(Bel.cells hB0 _ _ hbw).trans p4
 replace p5:=(Bel.cells hB0 _ _ hbw).trans p5
 replace p6:=(Bel.cells hB0 _ _ hbw).trans p6
 replace p7:=(Bel.cells hB0 _ _ hbw).trans p7
 replace p8:=(Bel.cells hB0 _ _ hbw).trans p8
 have x1:=hx0.cell 1
 simp only [Ze,Zd] at x1
 have HB0:=lH hB0
 have HX0:=lH hx0
 have hlt0:=hx0.lt
 clear hB0 hx0
 go_upto_region 3 with fail
 obtain ⟨W1,hW1⟩:∃ W1:World,W1=W0.alloc (.cells #[.bool xl,.string ⟨([]:Txt).toArray⟩,.string ⟨xx.toArray⟩,.slice aa xa.length ac,.int .i64 xu,.slice ka xk.length kc,.bool xh,.slice sa xs.length sc,.bool xi] 65):=⟨_,rfl⟩
 have hx1:Blk W1 w.heap.size [.int .i64 kind,.int .i64 (p:Int),.int .i64 dest,.int .i64 before,.string ⟨nm.toArray⟩,.string ⟨value.toArray⟩] 40:=by rw [hW1];exact HX0.o.bel ((Br W0).alloc _)
 have hn1:Blk W1 W0.heap.size [.bool xl,.string ⟨([]:Txt).toArray⟩,.string ⟨xx.toArray⟩,.slice aa xa.length ac,.int .i64 xu,.slice ka xk.length kc,.bool xh,.slice sa xs.length sc,.bool xi] 65:=by rw [hW1];exact Blk.new' _ _ rfl _ _
 have hB1:Bel w W1:=by rw [hW1];exact HB0.o.alloc _
 rw [<- hW1]
 clear hW1 p0 p1 p2 p3 p4 p5 p6 p7 p8 x1 HX0 HB0
 have x0:=hx1.cell 0
 have x1:=hx1.cell 1
 have x2:=hx1.cell 2
 have x3:=hx1.cell 3
 have x4:=hx1.cell 4
 have x5:=hx1.cell 5
 have n0:=hn1.cell 0
 have n1:=hn1.cell 1
 have n2:=hn1.cell 2
 have n3:=hn1.cell 3
 have n4:=hn1.cell 4
 have n5:=hn1.cell 5
 have n6:=hn1.cell 6
 have n7:=hn1.cell 7
 have n8:=hn1.cell 8
 have fn:=hn1.frozen
 simp only [Ze,Zd] at x0 x1 x2 x3 x4 x5 n0 n1 n2 n3 n4 n5 n6 n7 n8
 have HB1:=lH hB1
 have HXB:=lH hx1
 have HNB:=lH hn1
 have hsz1:=hB1.size
 have hg1:=hx1.lt
 have hg2:=hn1.lt
 clear hB1 hx1 hn1
 go_wp2_with (first | (go_at_call 110;refine (HNO.o _ _).mono ?_;rintro e w1 ⟨rfl,rfl⟩))
 go_ret3
 first | exact qQc.no rfl HB1.o | exact qQc.no rfl (HB1.o.alloc _)
theorem qYm (m:Nat) (v:Value) (d:Dc) (x:Chg) (w:World) (hv:qQq m w v d) (hm:m<=w.heap.size) (hd:d.length<=60) (hk:x.kind=8) (hi:isM d x.node false=true) (hnm:x.name.length<=9223372036854775807) (hl:x.value.length<=9223372036854775807) (htag0:(nd d x.node).tag≠[]) :
 Calls Tryz.prog 68 #[v,chgV x] w (qQc w (qJc d x)):=by
 obtain ⟨kind,node,dest,before,nm,value⟩:=x
 simp only at hk hi hl hnm
 subst hk
 obtain ⟨p,hpp,rfl,-⟩:=qZg.1 hi
 obtain ⟨b,off,cap',av,kv,sv,rfl,v1,v2,hbb,hP⟩:=hv.node p hpp
 have p0:=hP.live
 have p1:=hP.tag
 have p2:=hP.text
 have p3:=hP.atts
 have p4:=hP.up
 have p5:=hP.kids
 have p6:=hP.hasS
 have p7:=hP.shadow
 have p8:=hP.inS
 have PA:=lH hP.attsAt
 have PK:=lH hP.kidsAt
 have PS:=lH hP.shadowAt
 have HX:=lH (qQv hpp)
 have HI:=lH hi
 clear hP hi
 generalize hXX:d[p]=X at *
 obtain ⟨xl,xt,xx,xa,xu,xk,xh,xs,xi⟩:=X
 simp only at p0 p1 p2 p3 p4 p5 p6 p7 p8 PA PK PS
 obtain ⟨ka,kc,rfl,k1,k2⟩:=Rf PK.o
 obtain ⟨sa,sc,rfl,s1,s2⟩:=Rf PS.o
 obtain ⟨aa,ac,rfl,a1,a2⟩:=Rf PA.o
 have HV:=lH hv
 have HXX:=lH hXX
 clear hv hXX
 have HNO:=lH qQt
 have htag:xt≠[]:=by have:=htag0;simp only [HX.o] at this;exact this
 have hbt:xt.isEmpty=false:=by simpa using htag
 clear htag0
 by_cases h0:p=0
 ·have hp0:((p:Int)==0)=true:=by simp [h0]
  have HR:Hi (qJc d { kind:=8,node:=(p:Int),dest:=dest,before:=before,name:=nm,value:=value }=(8,0,[])):=lH (by
   unfold qJc;rw [if_pos (by simp [h0])])
  clear h0
  unfold chgV
  go_enter Tryz.func68,Tryz.ntmps68
  go_upto_region 2 with fail
  obtain ⟨W0,hW0⟩:∃ W0:World,W0=w.alloc (.cells #[.int .i64 8,.int .i64 (p:Int),.int .i64 dest,.int .i64 before,.string ⟨nm.toArray⟩,.string ⟨value.toArray⟩] 40):=⟨_,rfl⟩
  have hx0:Blk W0 w.heap.size [.int .i64 8,.int .i64 (p:Int),.int .i64 dest,.int .i64 before,.string ⟨nm.toArray⟩,.string ⟨value.toArray⟩] 40:=by rw [hW0];exact Blk.new' _ _ rfl _ _
  have hB0:Bel w W0:=by rw [hW0];exact (Br w).alloc _
  rw [<- hW0]
  clear hW0
  have hbw:b<w.heap.size:=by omega
  replace p0:=(Bel.cells hB0 _ _ hbw).trans p0
  replace p1:=(Bel.cells hB0 _ _ hbw).trans p1
  replace p2:=(Bel.cells hB0 _ _ hbw).trans p2
  replace p3:=(Bel.cells hB0 _ _ hbw).trans p3
  replace p4:=(Bel.cells hB0 _ _ hbw).trans p4
  replace p5:=(Bel.cells hB0 _ _ hbw).trans p5
  replace p6:=(Bel.cells hB0 _ _ hbw).trans p6
  replace p7:=(Bel.cells hB0 _ _ hbw).trans p7
  replace p8:=(Bel.cells hB0 _ _ hbw).trans p8
  have x1:=hx0.cell 1
  simp only [Ze,Zd] at x1
  have HB0:=lH hB0
  have HX0:=lH hx0
  have hlt0:=hx0.lt
  clear hB0 hx0
  go_upto_region 3 with fail
  obtain ⟨W1,hW1⟩:∃ W1:World,W1=W0.alloc (.cells #[.bool xl,.string ⟨xt.toArray⟩,.string ⟨xx.toArray⟩,.slice aa xa.length ac,.int .i64 xu,.slice ka xk.length kc,.bool xh,.slice sa xs.length sc,.bool xi] 65):=⟨_,rfl⟩
  have hx1:Blk W1 w.heap.size [.int .i64 8,.int .i64 (p:Int),.int .i64 dest,.int .i64 before,.string ⟨nm.toArray⟩,.string ⟨value.toArray⟩] 40:=by rw [hW1];exact HX0.o.bel ((Br W0).alloc _)
  have hn1:Blk W1 W0.heap.size [.bool xl,.string ⟨xt.toArray⟩,.string ⟨xx.toArray⟩,.slice aa xa.length ac,.int .i64 xu,.slice ka xk.length kc,.bool xh,.slice sa xs.length sc,.bool xi] 65:=by rw [hW1];exact Blk.new' _ _ rfl _ _
  have hB1:Bel w W1:=by rw [hW1];exact HB0.o.alloc _
  rw [<- hW1]
  clear hW1 p0 p1 p2 p3 p4 p5 p6 p7 p8 x1 HX0 HB0
  have x0:=hx1.cell 0
  have x1:=hx1.cell 1
  have x2:=hx1.cell 2
  have x3:=hx1.cell 3
  have x4:=hx1.cell 4
  have x5:=hx1.cell 5
  have n0:=hn1.cell 0
  have n1:=hn1.cell 1
  have n2:=hn1.cell 2
  have n3:=hn1.cell 3
  have n4:=hn1.cell 4
  have n5:=hn1.cell 5
  have n6:=hn1.cell 6
  have n7:=hn1.cell 7
  have n8:=hn1.cell 8
  have fn:=hn1.frozen
  simp only [Ze,Zd] at x0 x1 x2 x3 x4 x5 n0 n1 n2 n3 n4 n5 n6 n7 n8
  have HB1:=lH hB1
  have HXB:=lH hx1
  have HNB:=lH hn1
  have hsz1:=hB1.size
  have hg1:=hx1.lt
  have hg2:=hn1.lt
  clear hB1 hx1 hn1
  go_wp2_with (first | (go_at_call 110;refine (HNO.o _ _).mono ?_;rintro e w1 ⟨rfl,rfl⟩))
  go_ret3
  first | exact qQc.no HR.o HB1.o | exact qQc.no HR.o (HB1.o.alloc _)
 ·have hp0:((p:Int)==0)=false:=by simp;omega
  cases xh with
  | true=>
    have HR:Hi (qJc d { kind:=8,node:=(p:Int),dest:=dest,before:=before,name:=nm,value:=value }=(8,0,[])):=lH (by
     unfold qJc;rw [if_pos (by simp only [HX.o];simp)])
    unfold chgV
    go_enter Tryz.func68,Tryz.ntmps68
    go_upto_region 2 with fail
    obtain ⟨W0,hW0⟩:∃ W0:World,W0=w.alloc (.cells #[.int .i64 8,.int .i64 (p:Int),.int .i64 dest,.int .i64 before,.string ⟨nm.toArray⟩,.string ⟨value.toArray⟩] 40):=⟨_,rfl⟩
    have hx0:Blk W0 w.heap.size [.int .i64 8,.int .i64 (p:Int),.int .i64 dest,.int .i64 before,.string ⟨nm.toArray⟩,.string ⟨value.toArray⟩] 40:=by rw [hW0];exact Blk.new' _ _ rfl _ _
    have hB0:Bel w W0:=by rw [hW0];exact (Br w).alloc _
    rw [<- hW0]
    clear hW0
    have hbw:b<w.heap.size:=by omega
    replace p0:=(Bel.cells hB0 _ _ hbw).trans p0
    replace p1:=(Bel.cells hB0 _ _ hbw).trans p1
    replace p2:=(Bel.cells hB0 _ _ hbw).trans p2
    replace p3:=(Bel.cells hB0 _ _ hbw).trans p3
    replace p4:=(Bel.cells hB0 _ _ hbw).trans p4
    replace p5:=(Bel.cells hB0 _ _ hbw).trans p5
    replace p6:=(Bel.cells hB0 _ _ hbw).trans p6
    replace p7:=(Bel.cells hB0 _ _ hbw).trans p7
    replace p8:=(Bel.cells hB0 _ _ hbw).trans p8
    have x1:=hx0.cell 1
    simp only [Ze,Zd] at x1
    have HB0:=lH hB0
    have HX0:=lH hx0
    have hlt0:=hx0.lt
    clear hB0 hx0
    go_upto_region 3 with fail
    obtain ⟨W1,hW1⟩:∃ W1:World,W1=W0.alloc (.cells #[.bool xl,.string ⟨xt.toArray⟩,.string ⟨xx.toArray⟩,.slice aa xa.length ac,.int .i64 xu,.slice ka xk.length kc,.bool true,.slice sa xs.length sc,.bool xi] 65):=⟨_,rfl⟩
    have hx1:Blk W1 w.heap.size [.int .i64 8,.int .i64 (p:Int),.int .i64 dest,.int .i64 before,.string ⟨nm.toArray⟩,.string ⟨value.toArray⟩] 40:=by rw [hW1];exact HX0.o.bel ((Br W0).alloc _)
    have hn1:Blk W1 W0.heap.size [.bool xl,.string ⟨xt.toArray⟩,.string ⟨xx.toArray⟩,.slice aa xa.length ac,.int .i64 xu,.slice ka xk.length kc,.bool true,.slice sa xs.length sc,.bool xi] 65:=by rw [hW1];exact Blk.new' _ _ rfl _ _
    have hB1:Bel w W1:=by rw [hW1];exact HB0.o.alloc _
    rw [<- hW1]
    clear hW1 p0 p1 p2 p3 p4 p5 p6 p7 p8 x1 HX0 HB0
    have x0:=hx1.cell 0
    have x1:=hx1.cell 1
    have x2:=hx1.cell 2
    have x3:=hx1.cell 3
    have x4:=hx1.cell 4
    have x5:=hx1.cell 5
    have n0:=hn1.cell 0
    have n1:=hn1.cell 1
    have n2:=hn1.cell 2
    have n3:=hn1.cell 3
    have n4:=hn1.cell 4
    have n5:=hn1.cell 5
    have n6:=hn1.cell 6
    have n7:=hn1.cell 7
    have n8:=hn1.cell 8
    have fn:=hn1.frozen
    simp only [Ze,Zd] at x0 x1 x2 x3 x4 x5 n0 n1 n2 n3 n4 n5 n6 n7 n8
    have HB1:=lH hB1
    have HXB:=lH hx1
    have HNB:=lH hn1
    have hsz1:=hB1.size
    have hg1:=hx1.lt
    have hg2:=hn1.lt
    clear hB1 hx1 hn1
    go_wp2_with (first | (go_at_call 110;refine (HNO.o _ _).mono ?_;rintro e w1 ⟨rfl,rfl⟩))
    go_ret3
    first | exact qQc.no HR.o HB1.o | exact qQc.no HR.o (HB1.o.alloc _)
  | false=>
    by_cases hs:xt=qXo
    ·have hsb:(xt==[115,108,111,116])=true:=by rw [hs];rfl
     have HR:Hi (qJc d { kind:=8,node:=(p:Int),dest:=dest,before:=before,name:=nm,value:=value }=(8,0,[])):=lH (by
      unfold qJc;rw [if_pos (by simp only [HX.o];simp [hs])])
     clear hs
     unfold chgV
     go_enter Tryz.func68,Tryz.ntmps68
     go_upto_region 2 with fail
     obtain ⟨W0,hW0⟩:∃ W0:World,W0=w.alloc (.cells #[.int .i64 8,.int .i64 (p:Int),.int .i64 dest,.int .i64 before,.string ⟨nm.toArray⟩,.string ⟨value.toArray⟩] 40):=⟨_,rfl⟩
     have hx0:Blk W0 w.heap.size [.int .i64 8,.int .i64 (p:Int),.int .i64 dest,.int .i64 before,.string ⟨nm.toArray⟩,.string ⟨value.toArray⟩] 40:=by rw [hW0];exact Blk.new' _ _ rfl _ _
     have hB0:Bel w W0:=by rw [hW0];exact (Br w).alloc _
     rw [<- hW0]
     clear hW0
     have hbw:b<w.heap.size:=by omega
     replace p0:=(Bel.cells hB0 _ _ hbw).trans p0
     replace p1:=(Bel.cells hB0 _ _ hbw).trans p1
     replace p2:=(Bel.cells hB0 _ _ hbw).trans p2
     replace p3:=(Bel.cells hB0 _ _ hbw).trans p3
     replace p4:=(Bel.cells hB0 _ _ hbw).trans p4
     replace p5:=(Bel.cells hB0 _ _ hbw).trans p5
     replace p6:=(Bel.cells hB0 _ _ hbw).trans p6
     replace p7:=(Bel.cells hB0 _ _ hbw).trans p7
     replace p8:=(Bel.cells hB0 _ _ hbw).trans p8
     have x1:=hx0.cell 1
     simp only [Ze,Zd] at x1
     have HB0:=lH hB0
     have HX0:=lH hx0
     have hlt0:=hx0.lt
     clear hB0 hx0
     go_upto_region 3 with fail
     obtain ⟨W1,hW1⟩:∃ W1:World,W1=W0.alloc (.cells #[.bool xl,.string ⟨xt.toArray⟩,.string ⟨xx.toArray⟩,.slice aa xa.length ac,.int .i64 xu,.slice ka xk.length kc,.bool false,.slice sa xs.length sc,.bool xi] 65):=⟨_,rfl⟩
     have hx1:Blk W1 w.heap.size [.int .i64 8,.int .i64 (p:Int),.int .i64 dest,.int .i64 before,.string ⟨nm.toArray⟩,.string ⟨value.toArray⟩] 40:=by rw [hW1];exact HX0.o.bel ((Br W0).alloc _)
     have hn1:Blk W1 W0.heap.size [.bool xl,.string ⟨xt.toArray⟩,.string ⟨xx.toArray⟩,.slice aa xa.length ac,.int .i64 xu,.slice ka xk.length kc,.bool false,.slice sa xs.length sc,.bool xi] 65:=by rw [hW1];exact Blk.new' _ _ rfl _ _
     have hB1:Bel w W1:=by rw [hW1];exact HB0.o.alloc _
     rw [<- hW1]
     clear hW1 p0 p1 p2 p3 p4 p5 p6 p7 p8 x1 HX0 HB0
     have x0:=hx1.cell 0
     have x1:=hx1.cell 1
     have x2:=hx1.cell 2
     have x3:=hx1.cell 3
     have x4:=hx1.cell 4
     have x5:=hx1.cell 5
     have n0:=hn1.cell 0
     have n1:=hn1.cell 1
     have n2:=hn1.cell 2
     have n3:=hn1.cell 3
     have n4:=hn1.cell 4
     have n5:=hn1.cell 5
     have n6:=hn1.cell 6
     have n7:=hn1.cell 7
     have n8:=hn1.cell 8
     have fn:=hn1.frozen
     simp only [Ze,Zd] at x0 x1 x2 x3 x4 x5 n0 n1 n2 n3 n4 n5 n6 n7 n8
     have HB1:=lH hB1
     have HXB:=lH hx1
     have HNB:=lH hn1
     have hsz1:=hB1.size
     have hg1:=hx1.lt
     have hg2:=hn1.lt
     clear hB1 hx1 hn1
     go_wp2_with (first | (go_at_call 110;refine (HNO.o _ _).mono ?_;rintro e w1 ⟨rfl,rfl⟩))
     go_ret3
     first | exact qQc.no HR.o HB1.o | exact qQc.no HR.o (HB1.o.alloc _)
    ·have hsb:(xt==[115,108,111,116])=false:=by
      have:(xt==qXo)=false:=by simpa using hs
      exact this
     have HR:Hi (qJc d { kind:=8,node:=(p:Int),dest:=dest,before:=before,name:=nm,value:=value }=(0,(p:Int),qQn d p { live:=xl,tag:=xt,text:=xx,attrs:=xa,up:=xu,kids:=xk,hasS:=true,shadow:=xs,inS:=xi })):=lH (by
      unfold qJc;rw [if_neg (by simp only [HX.o];simp;exact ⟨by omega,hs⟩)];simp only [HX.o];rfl)
     clear hs
     unfold chgV
     go_enter Tryz.func68,Tryz.ntmps68
     go_upto_region 2 with fail
     obtain ⟨W0,hW0⟩:∃ W0:World,W0=w.alloc (.cells #[.int .i64 8,.int .i64 (p:Int),.int .i64 dest,.int .i64 before,.string ⟨nm.toArray⟩,.string ⟨value.toArray⟩] 40):=⟨_,rfl⟩
     have hx0:Blk W0 w.heap.size [.int .i64 8,.int .i64 (p:Int),.int .i64 dest,.int .i64 before,.string ⟨nm.toArray⟩,.string ⟨value.toArray⟩] 40:=by rw [hW0];exact Blk.new' _ _ rfl _ _
     have hB0:Bel w W0:=by rw [hW0];exact (Br w).alloc _
     rw [<- hW0]
     clear hW0
     have hbw:b<w.heap.size:=by omega
     replace p0:=(Bel.cells hB0 _ _ hbw).trans p0
     replace p1:=(Bel.cells hB0 _ _ hbw).trans p1
     replace p2:=(Bel.cells hB0 _ _ hbw).trans p2
     replace p3:=(Bel.cells hB0 _ _ hbw).trans p3
     replace p4:=(Bel.cells hB0 _ _ hbw).trans p4
     replace p5:=(Bel.cells hB0 _ _ hbw).trans p5
     replace p6:=(Bel.cells hB0 _ _ hbw).trans p6
     replace p7:=(Bel.cells hB0 _ _ hbw).trans p7
     replace p8:=(Bel.cells hB0 _ _ hbw).trans p8
     have x1:=hx0.cell 1
     simp only [Ze,Zd] at x1
     have HB0:=lH hB0
     have HX0:=lH hx0
     have hlt0:=hx0.lt
     clear hB0 hx0
     go_upto_region 3 with fail
     obtain ⟨W1,hW1⟩:∃ W1:World,W1=W0.alloc (.cells #[.bool xl,.string ⟨xt.toArray⟩,.string ⟨xx.toArray⟩,.slice aa xa.length ac,.int .i64 xu,.slice ka xk.length kc,.bool false,.slice sa xs.length sc,.bool xi] 65):=⟨_,rfl⟩
     have hx1:Blk W1 w.heap.size [.int .i64 8,.int .i64 (p:Int),.int .i64 dest,.int .i64 before,.string ⟨nm.toArray⟩,.string ⟨value.toArray⟩] 40:=by rw [hW1];exact HX0.o.bel ((Br W0).alloc _)
     have hn1:Blk W1 W0.heap.size [.bool xl,.string ⟨xt.toArray⟩,.string ⟨xx.toArray⟩,.slice aa xa.length ac,.int .i64 xu,.slice ka xk.length kc,.bool false,.slice sa xs.length sc,.bool xi] 65:=by rw [hW1];exact Blk.new' _ _ rfl _ _
     have hB1:Bel w W1:=by rw [hW1];exact HB0.o.alloc _
     rw [<- hW1]
     clear hW1 p0 p1 p2 p3 p4 p5 p6 p7 p8 x1 HX0 HB0
     have x0:=hx1.cell 0
     have x1:=hx1.cell 1
     have x2:=hx1.cell 2
     have x3:=hx1.cell 3
     have x4:=hx1.cell 4
     have x5:=hx1.cell 5
     have n0:=hn1.cell 0
     have n1:=hn1.cell 1
     have n2:=hn1.cell 2
     have n3:=hn1.cell 3
     have n4:=hn1.cell 4
     have n5:=hn1.cell 5
     have n6:=hn1.cell 6
     have n7:=hn1.cell 7
     have n8:=hn1.cell 8
     have fn:=hn1.frozen
     simp only [Ze,Zd] at x0 x1 x2 x3 x4 x5 n0 n1 n2 n3 n4 n5 n6 n7 n8
     have HB1:=lH hB1
     have HXB:=lH hx1
     have HNB:=lH hn1
     have hsz1:=hB1.size
     have hg1:=hx1.lt
     have hg2:=hn1.lt
     clear hB1 hx1 hn1
     go_upto_region 73 with (go_at_call 110;refine (HNO.o _ _).mono ?_;rintro e w1 ⟨rfl,rfl⟩)
     refine qKj (E:=fun W=>Bel w W/\Blk W w.heap.size [.int .i64 8,.int .i64 (p:Int),.int .i64 dest,.int .i64 before,.string ⟨nm.toArray⟩,.string ⟨value.toArray⟩] 40/\qH5 W.heap.size W W0.heap.size { live:=xl,tag:=xt,text:=xx,attrs:=xa,up:=xu,kids:=xk,hasS:=true,shadow:=xs,inS:=xi } (.slice aa xa.length ac) (.slice ka xk.length kc) (.slice sa xs.length sc)) ?_ ?_
     ·exact ⟨HB1.o.setCell _ _ _ (by omega),HXB.o.other _ _ (by simp;omega),HNB.o.set 6 _,qZy.up PA.o (HB1.o.setCell _ _ _ (by omega)) hm,qQ6.up PK.o (HB1.o.setCell _ _ _ (by omega)) hm,qQ6.up PS.o (HB1.o.setCell _ _ _ (by omega)) hm⟩
     rintro W2 ⟨hB2,hX2,hN2,hA2,hK2,hS2⟩
     clear x0 x1 x2 x3 x4 x5 n0 n1 n2 n3 n4 n5 n6 n7 n8 fn
     have x1:=hX2.cell 1
     have n0:=hN2.cell 0
     have n1:=hN2.cell 1
     have n2:=hN2.cell 2
     have n3:=hN2.cell 3
     have n4:=hN2.cell 4
     have n5:=hN2.cell 5
     have n6:=hN2.cell 6
     have n7:=hN2.cell 7
     have n8:=hN2.cell 8
     simp only [Ze,Zd] at x1 n0 n1 n2 n3 n4 n5 n6 n7 n8
     have cW:=lH (qQw W2.heap.size _ d p { live:=xl,tag:=xt,text:=xx,attrs:=xa,up:=xu,kids:=xk,hasS:=true,shadow:=xs,inS:=xi } _ _ _ W2.drew (HV.o.up hB2 hm) (Zb _) (by omega) (by omega) hA2 hK2 hS2)
     have HS:Hi (∀ W,Bel W2 W->W.cell? ⟨w.heap.size,1,none⟩=some (.int .i64 (p:Int))/\W.cell? ⟨W0.heap.size,0,none⟩=some (.bool xl)/\W.cell? ⟨W0.heap.size,1,none⟩=some (.string ⟨(xt:Txt).toArray⟩)/\W.cell? ⟨W0.heap.size,2,none⟩=some (.string ⟨(xx:Txt).toArray⟩)/\W.cell? ⟨W0.heap.size,3,none⟩=some (.slice aa xa.length ac)/\W.cell? ⟨W0.heap.size,4,none⟩=some (.int .i64 xu)/\W.cell? ⟨W0.heap.size,5,none⟩=some (.slice ka xk.length kc)/\W.cell? ⟨W0.heap.size,6,none⟩=some (.bool true)/\W.cell? ⟨W0.heap.size,7,none⟩=some (.slice sa xs.length sc)/\W.cell? ⟨W0.heap.size,8,none⟩=some (.bool xi)):=lH (fun W hb=>⟨(hX2.bel hb).cell 1,(hN2.bel hb).cell 0,(hN2.bel hb).cell 1,(hN2.bel hb).cell 2,(hN2.bel hb).cell 3,(hN2.bel hb).cell 4,(hN2.bel hb).cell 5,(hN2.bel hb).cell 6,(hN2.bel hb).cell 7,(hN2.bel hb).cell 8⟩)
     have HB2:=lH hB2
     clear hB2 hX2 hN2 hA2 hK2 hS2
     go_region_held (fun w'=>w'.cell? ⟨w.heap.size,1,none⟩=some (.int .i64 (p:Int))/\w'.cell? ⟨W0.heap.size,0,none⟩=some (.bool xl)/\w'.cell? ⟨W0.heap.size,1,none⟩=some (.string ⟨(xt:Txt).toArray⟩)/\w'.cell? ⟨W0.heap.size,2,none⟩=some (.string ⟨(xx:Txt).toArray⟩)/\w'.cell? ⟨W0.heap.size,3,none⟩=some (.slice aa xa.length ac)/\w'.cell? ⟨W0.heap.size,4,none⟩=some (.int .i64 xu)/\w'.cell? ⟨W0.heap.size,5,none⟩=some (.slice ka xk.length kc)/\w'.cell? ⟨W0.heap.size,6,none⟩=some (.bool true)/\w'.cell? ⟨W0.heap.size,7,none⟩=some (.slice sa xs.length sc)/\w'.cell? ⟨W0.heap.size,8,none⟩=some (.bool xi)) (first | exact HS.o _ (Br W2).drew | exact HS.o _ HB24.o) (first | (go_at_call 114;refine cW.o.mono ?_;rintro e w4 ⟨b4,x4,rfl,o4⟩;obtain ⟨y4,z4,rfl,_,_⟩:=Rf o4;have HB24:=lH (Bt (Br W2).drew b4);have HB4:=lH (Bt HB2.o.drew b4);have HD4:=lH o4;clear b4 o4))
     all_goals
      go_wp2_with fail
      go_ret3
      exact qQc.yes HR.o HB4.o HD4.o
theorem qWc (m:Nat) (v:Value) (d:Dc) (x:Chg) (w:World) (hv:qQq m w v d) (hm:m<=w.heap.size) (hd:d.length<=60) (hk:x.kind=5) (hi:isM d x.node false=true) (hnm:x.name.length<=9223372036854775807) (hl:x.value.length<=9223372036854775807) (htag0:(nd d x.node).tag≠[]) (hax0:(nd d x.node).attrs.length<=8) :
 Calls Tryz.prog 68 #[v,chgV x] w (qQc w (qZw d x)):=by
 obtain ⟨kind,node,dest,before,nm,value⟩:=x
 simp only at hk hi hl hnm
 subst hk
 obtain ⟨p,hpp,rfl,-⟩:=qZg.1 hi
 obtain ⟨b,off,cap',av,kv,sv,rfl,v1,v2,hbb,hP⟩:=hv.node p hpp
 have p0:=hP.live
 have p1:=hP.tag
 have p2:=hP.text
 have p3:=hP.atts
 have p4:=hP.up
 have p5:=hP.kids
 have p6:=hP.hasS
 have p7:=hP.shadow
 have p8:=hP.inS
 have PA:=lH hP.attsAt
 have PK:=lH hP.kidsAt
 have PS:=lH hP.shadowAt
 have HX:=lH (qQv hpp)
 have HI:=lH hi
 clear hP hi
 generalize hXX:d[p]=X at *
 obtain ⟨xl,xt,xx,xa,xu,xk,xh,xs,xi⟩:=X
 simp only at p0 p1 p2 p3 p4 p5 p6 p7 p8 PA PK PS
 obtain ⟨ka,kc,rfl,k1,k2⟩:=Rf PK.o
 obtain ⟨sa,sc,rfl,s1,s2⟩:=Rf PS.o
 obtain ⟨aa,ac,rfl,a1,a2⟩:=Rf PA.o
 have HV:=lH hv
 have HXX:=lH hXX
 clear hv hXX
 have HNO:=lH qQt
 have htag:xt≠[]:=by have:=htag0;simp only [HX.o] at this;exact this
 have hbt:xt.isEmpty=false:=by simpa using htag
 clear htag0
 have hax:xa.length<=8:=by have:=hax0;simp only [HX.o] at this;exact this
 clear hax0
 cases hname:name nm with
 | false=>
   have cN:Hi (∀ W,Calls Tryz.prog 115 #[.string ⟨nm.toArray⟩] W (Rv (.bool false) W)):=lH (fun W=>hname▸qQx nm W hnm)
   have HR:Hi (qZw d { kind:=5,node:=(p:Int),dest:=dest,before:=before,name:=nm,value:=value }=(7,0,[])):=lH (by
    unfold qZw;rw [if_pos (by simp [hname])])
   clear hname
   unfold chgV
   go_enter Tryz.func68,Tryz.ntmps68
   go_upto_region 2 with fail
   obtain ⟨W0,hW0⟩:∃ W0:World,W0=w.alloc (.cells #[.int .i64 5,.int .i64 (p:Int),.int .i64 dest,.int .i64 before,.string ⟨nm.toArray⟩,.string ⟨value.toArray⟩] 40):=⟨_,rfl⟩
   have hx0:Blk W0 w.heap.size [.int .i64 5,.int .i64 (p:Int),.int .i64 dest,.int .i64 before,.string ⟨nm.toArray⟩,.string ⟨value.toArray⟩] 40:=by rw [hW0];exact Blk.new' _ _ rfl _ _
   have hB0:Bel w W0:=by rw [hW0];exact (Br w).alloc _
   rw [<- hW0]
   clear hW0
   have hbw:b<w.heap.size:=by omega
   replace p0:=(Bel.cells hB0 _ _ hbw).trans p0
   replace p1:=(Bel.cells hB0 _ _ hbw).trans p1
   replace p2:=(Bel.cells hB0 _ _ hbw).trans p2
   replace p3:=(Bel.cells hB0 _ _ hbw).trans p3
   replace p4:=(Bel.cells hB0 _ _ hbw).trans p4
   replace p5:=(Bel.cells hB0 _ _ hbw).trans p5
   replace p6:=(Bel.cells hB0 _ _ hbw).trans p6
   replace p7:=(Bel.cells hB0 _ _ hbw).trans p7
   replace p8:=(Bel.cells hB0 _ _ hbw).trans p8
   have x1:=hx0.cell 1
   simp only [Ze,Zd] at x1
   have HB0:=lH hB0
   have HX0:=lH hx0
   have hlt0:=hx0.lt
   clear hB0 hx0
   go_upto_region 3 with fail
   obtain ⟨W1,hW1⟩:∃ W1:World,W1=W0.alloc (.cells #[.bool xl,.string ⟨xt.toArray⟩,.string ⟨xx.toArray⟩,.slice aa xa.length ac,.int .i64 xu,.slice ka xk.length kc,.bool xh,.slice sa xs.length sc,.bool xi] 65):=⟨_,rfl⟩
   have hx1:Blk W1 w.heap.size [.int .i64 5,.int .i64 (p:Int),.int .i64 dest,.int .i64 before,.string ⟨nm.toArray⟩,.string ⟨value.toArray⟩] 40:=by rw [hW1];exact HX0.o.bel ((Br W0).alloc _)
   have hn1:Blk W1 W0.heap.size [.bool xl,.string ⟨xt.toArray⟩,.string ⟨xx.toArray⟩,.slice aa xa.length ac,.int .i64 xu,.slice ka xk.length kc,.bool xh,.slice sa xs.length sc,.bool xi] 65:=by rw [hW1];exact Blk.new' _ _ rfl _ _
   have hB1:Bel w W1:=by rw [hW1];exact HB0.o.alloc _
   rw [<- hW1]
   clear hW1 p0 p1 p2 p3 p4 p5 p6 p7 p8 x1 HX0 HB0
   have x0:=hx1.cell 0
   have x1:=hx1.cell 1
   have x2:=hx1.cell 2
   have x3:=hx1.cell 3
   have x4:=hx1.cell 4
   have x5:=hx1.cell 5
   have n0:=hn1.cell 0
   have n1:=hn1.cell 1
   have n2:=hn1.cell 2
   have n3:=hn1.cell 3
   have n4:=hn1.cell 4
   have n5:=hn1.cell 5
   have n6:=hn1.cell 6
   have n7:=hn1.cell 7
   have n8:=hn1.cell 8
   have fn:=hn1.frozen
   simp only [Ze,Zd] at x0 x1 x2 x3 x4 x5 n0 n1 n2 n3 n4 n5 n6 n7 n8
   have HB1:=lH hB1
   have HXB:=lH hx1
   have HNB:=lH hn1
   have hsz1:=hB1.size
   have hg1:=hx1.lt
   have hg2:=hn1.lt
   clear hB1 hx1 hn1
   go_wp2_with (first | (go_at_call 110;refine (HNO.o _ _).mono ?_;rintro e w1 ⟨rfl,rfl⟩) | (go_at_call 115;refine (cN.o _).mono ?_;rintro e w1 ⟨rfl,rfl⟩))
   go_ret3
   first | exact qQc.no HR.o HB1.o | exact qQc.no HR.o (HB1.o.alloc _)
 | true=>
   by_cases hv60:60<value.length
   ·have cN:Hi (∀ W,Calls Tryz.prog 115 #[.string ⟨nm.toArray⟩] W (Rv (.bool true) W)):=lH (fun W=>hname▸qQx nm W hnm)
    have HR:Hi (qZw d { kind:=5,node:=(p:Int),dest:=dest,before:=before,name:=nm,value:=value }=(4,0,[])):=lH (by
     unfold qZw;rw [if_neg (by simp [hname]),if_pos hv60])
    clear hname
    unfold chgV
    go_enter Tryz.func68,Tryz.ntmps68
    go_upto_region 2 with fail
    obtain ⟨W0,hW0⟩:∃ W0:World,W0=w.alloc (.cells #[.int .i64 5,.int .i64 (p:Int),.int .i64 dest,.int .i64 before,.string ⟨nm.toArray⟩,.string ⟨value.toArray⟩] 40):=⟨_,rfl⟩
    have hx0:Blk W0 w.heap.size [.int .i64 5,.int .i64 (p:Int),.int .i64 dest,.int .i64 before,.string ⟨nm.toArray⟩,.string ⟨value.toArray⟩] 40:=by rw [hW0];exact Blk.new' _ _ rfl _ _
    have hB0:Bel w W0:=by rw [hW0];exact (Br w).alloc _
    rw [<- hW0]
    clear hW0
    have hbw:b<w.heap.size:=by omega
    replace p0:=(Bel.cells hB0 _ _ hbw).trans p0
    replace p1:=(Bel.cells hB0 _ _ hbw).trans p1
    replace p2:=(Bel.cells hB0 _ _ hbw).trans p2
    replace p3:=(Bel.cells hB0 _ _ hbw).trans p3
    replace p4:=(Bel.cells hB0 _ _ hbw).trans p4
    replace p5:=(Bel.cells hB0 _ _ hbw).trans p5
    replace p6:=(Bel.cells hB0 _ _ hbw).trans p6
    replace p7:=(Bel.cells hB0 _ _ hbw).trans p7
    replace p8:=(Bel.cells hB0 _ _ hbw).trans p8
    have x1:=hx0.cell 1
    simp only [Ze,Zd] at x1
    have HB0:=lH hB0
    have HX0:=lH hx0
    have hlt0:=hx0.lt
    clear hB0 hx0
    go_upto_region 3 with fail
    obtain ⟨W1,hW1⟩:∃ W1:World,W1=W0.alloc (.cells #[.bool xl,.string ⟨xt.toArray⟩,.string ⟨xx.toArray⟩,.slice aa xa.length ac,.int .i64 xu,.slice ka xk.length kc,.bool xh,.slice sa xs.length sc,.bool xi] 65):=⟨_,rfl⟩
    have hx1:Blk W1 w.heap.size [.int .i64 5,.int .i64 (p:Int),.int .i64 dest,.int .i64 before,.string ⟨nm.toArray⟩,.string ⟨value.toArray⟩] 40:=by rw [hW1];exact HX0.o.bel ((Br W0).alloc _)
    have hn1:Blk W1 W0.heap.size [.bool xl,.string ⟨xt.toArray⟩,.string ⟨xx.toArray⟩,.slice aa xa.length ac,.int .i64 xu,.slice ka xk.length kc,.bool xh,.slice sa xs.length sc,.bool xi] 65:=by rw [hW1];exact Blk.new' _ _ rfl _ _
    have hB1:Bel w W1:=by rw [hW1];exact HB0.o.alloc _
    rw [<- hW1]
    clear hW1 p0 p1 p2 p3 p4 p5 p6 p7 p8 x1 HX0 HB0
    have x0:=hx1.cell 0
    have x1:=hx1.cell 1
    have x2:=hx1.cell 2
    have x3:=hx1.cell 3
    have x4:=hx1.cell 4
    have x5:=hx1.cell 5
    have n0:=hn1.cell 0
    have n1:=hn1.cell 1
    have n2:=hn1.cell 2
    have n3:=hn1.cell 3
    have n4:=hn1.cell 4
    have n5:=hn1.cell 5
    have n6:=hn1.cell 6
    have n7:=hn1.cell 7
    have n8:=hn1.cell 8
    have fn:=hn1.frozen
    simp only [Ze,Zd] at x0 x1 x2 x3 x4 x5 n0 n1 n2 n3 n4 n5 n6 n7 n8
    have HB1:=lH hB1
    have HXB:=lH hx1
    have HNB:=lH hn1
    have hsz1:=hB1.size
    have hg1:=hx1.lt
    have hg2:=hn1.lt
    clear hB1 hx1 hn1
    go_wp2_with (first | (go_at_call 110;refine (HNO.o _ _).mono ?_;rintro e w1 ⟨rfl,rfl⟩) | (go_at_call 115;refine (cN.o _).mono ?_;rintro e w1 ⟨rfl,rfl⟩))
    go_ret3
    first | exact qQc.no HR.o HB1.o | exact qQc.no HR.o (HB1.o.alloc _)
   ·by_cases hl8:8<(qJj xa nm value).length
    ·have h8:decide ((qJj xa nm value).length<=8)=false:=by simp;omega
     have cN:Hi (∀ W,Calls Tryz.prog 115 #[.string ⟨nm.toArray⟩] W (Rv (.bool true) W)):=lH (fun W=>hname▸qQx nm W hnm)
     have cA:Hi (∀ W,Bel w W->Calls Tryz.prog 116 #[.slice aa xa.length ac,.string ⟨nm.toArray⟩,.string ⟨value.toArray⟩] W (Rn W fun w' y=>∃ u,y=.tuple #[u,.bool false]/\qQg 2 qX4 W.heap.size 106 w' u (qJj xa nm value))):=lH (fun W h=>by
      have:=qKs m _ xa nm value W (qQb.later PA.o qQh h hm) (Za hm h.size) (by omega)
      rw [h8] at this
      exact this)
     have HR:Hi (qZw d { kind:=5,node:=(p:Int),dest:=dest,before:=before,name:=nm,value:=value }=(5,0,[])):=lH (by
      unfold qZw;rw [if_neg (by simp [hname]),if_neg hv60,if_pos (by simp only [HX.o];exact hl8)])
     clear hname h8
     unfold chgV
     go_enter Tryz.func68,Tryz.ntmps68
     go_upto_region 2 with fail
     obtain ⟨W0,hW0⟩:∃ W0:World,W0=w.alloc (.cells #[.int .i64 5,.int .i64 (p:Int),.int .i64 dest,.int .i64 before,.string ⟨nm.toArray⟩,.string ⟨value.toArray⟩] 40):=⟨_,rfl⟩
     have hx0:Blk W0 w.heap.size [.int .i64 5,.int .i64 (p:Int),.int .i64 dest,.int .i64 before,.string ⟨nm.toArray⟩,.string ⟨value.toArray⟩] 40:=by rw [hW0];exact Blk.new' _ _ rfl _ _
     have hB0:Bel w W0:=by rw [hW0];exact (Br w).alloc _
     rw [<- hW0]
     clear hW0
     have hbw:b<w.heap.size:=by omega
     replace p0:=(Bel.cells hB0 _ _ hbw).trans p0
     replace p1:=(Bel.cells hB0 _ _ hbw).trans p1
     replace p2:=(Bel.cells hB0 _ _ hbw).trans p2
     replace p3:=(Bel.cells hB0 _ _ hbw).trans p3
     replace p4:=(Bel.cells hB0 _ _ hbw).trans p4
     replace p5:=(Bel.cells hB0 _ _ hbw).trans p5
     replace p6:=(Bel.cells hB0 _ _ hbw).trans p6
     replace p7:=(Bel.cells hB0 _ _ hbw).trans p7
     replace p8:=(Bel.cells hB0 _ _ hbw).trans p8
     have x1:=hx0.cell 1
     simp only [Ze,Zd] at x1
     have HB0:=lH hB0
     have HX0:=lH hx0
     have hlt0:=hx0.lt
     clear hB0 hx0
     go_upto_region 3 with fail
     obtain ⟨W1,hW1⟩:∃ W1:World,W1=W0.alloc (.cells #[.bool xl,.string ⟨xt.toArray⟩,.string ⟨xx.toArray⟩,.slice aa xa.length ac,.int .i64 xu,.slice ka xk.length kc,.bool xh,.slice sa xs.length sc,.bool xi] 65):=⟨_,rfl⟩
     have hx1:Blk W1 w.heap.size [.int .i64 5,.int .i64 (p:Int),.int .i64 dest,.int .i64 before,.string ⟨nm.toArray⟩,.string ⟨value.toArray⟩] 40:=by rw [hW1];exact HX0.o.bel ((Br W0).alloc _)
     have hn1:Blk W1 W0.heap.size [.bool xl,.string ⟨xt.toArray⟩,.string ⟨xx.toArray⟩,.slice aa xa.length ac,.int .i64 xu,.slice ka xk.length kc,.bool xh,.slice sa xs.length sc,.bool xi] 65:=by rw [hW1];exact Blk.new' _ _ rfl _ _
     have hB1:Bel w W1:=by rw [hW1];exact HB0.o.alloc _
     rw [<- hW1]
     clear hW1 p0 p1 p2 p3 p4 p5 p6 p7 p8 x1 HX0 HB0
     have x0:=hx1.cell 0
     have x1:=hx1.cell 1
     have x2:=hx1.cell 2
     have x3:=hx1.cell 3
     have x4:=hx1.cell 4
     have x5:=hx1.cell 5
     have n0:=hn1.cell 0
     have n1:=hn1.cell 1
     have n2:=hn1.cell 2
     have n3:=hn1.cell 3
     have n4:=hn1.cell 4
     have n5:=hn1.cell 5
     have n6:=hn1.cell 6
     have n7:=hn1.cell 7
     have n8:=hn1.cell 8
     have fn:=hn1.frozen
     simp only [Ze,Zd] at x0 x1 x2 x3 x4 x5 n0 n1 n2 n3 n4 n5 n6 n7 n8
     have HB1:=lH hB1
     have HXB:=lH hx1
     have HNB:=lH hn1
     have hsz1:=hB1.size
     have hg1:=hx1.lt
     have hg2:=hn1.lt
     clear hB1 hx1 hn1
     go_wp2_with (first | (go_at_call 110;refine (HNO.o _ _).mono ?_;rintro e w1 ⟨rfl,rfl⟩) | (go_at_call 115;refine (cN.o _).mono ?_;rintro e w1 ⟨rfl,rfl⟩) | (go_at_call 116;refine (cA.o _ HB1.o).mono ?_;rintro e wa ⟨ba,ya,rfl,ua,rfl,oa⟩;obtain ⟨y5,z5,rfl,_,_⟩:=Rf oa.read;have n3:=(HNB.o.bel ba).cell 3;have f3:=(HNB.o.bel ba).frozen 3;simp only [Ze,Zd] at n3;have HBA:=lH ba;have HOA:=lH oa;clear ba oa))
     go_ret3
     exact qQc.no HR.o (Bt HB1.o HBA.o)
    ·have h8:decide ((qJj xa nm value).length<=8)=true:=by simp;omega
     have cN:Hi (∀ W,Calls Tryz.prog 115 #[.string ⟨nm.toArray⟩] W (Rv (.bool true) W)):=lH (fun W=>hname▸qQx nm W hnm)
     have cA:Hi (∀ W,Bel w W->Calls Tryz.prog 116 #[.slice aa xa.length ac,.string ⟨nm.toArray⟩,.string ⟨value.toArray⟩] W (Rn W fun w' y=>∃ u,y=.tuple #[u,.bool true]/\qQg 2 qX4 W.heap.size 106 w' u (qJj xa nm value))):=lH (fun W h=>by
      have:=qKs m _ xa nm value W (qQb.later PA.o qQh h hm) (Za hm h.size) (by omega)
      rw [h8] at this
      exact this)
     have HR:Hi (qZw d { kind:=5,node:=(p:Int),dest:=dest,before:=before,name:=nm,value:=value }=(0,(p:Int),qQn d p { live:=xl,tag:=xt,text:=xx,attrs:=qJj xa nm value,up:=xu,kids:=xk,hasS:=xh,shadow:=xs,inS:=xi })):=lH (by
      unfold qZw;rw [if_neg (by simp [hname]),if_neg hv60,if_neg (by simp only [HX.o];exact hl8)];simp only [HX.o];rfl)
     clear hname h8
     unfold chgV
     go_enter Tryz.func68,Tryz.ntmps68
     go_upto_region 2 with fail
     obtain ⟨W0,hW0⟩:∃ W0:World,W0=w.alloc (.cells #[.int .i64 5,.int .i64 (p:Int),.int .i64 dest,.int .i64 before,.string ⟨nm.toArray⟩,.string ⟨value.toArray⟩] 40):=⟨_,rfl⟩
     have hx0:Blk W0 w.heap.size [.int .i64 5,.int .i64 (p:Int),.int .i64 dest,.int .i64 before,.string ⟨nm.toArray⟩,.string ⟨value.toArray⟩] 40:=by rw [hW0];exact Blk.new' _ _ rfl _ _
     have hB0:Bel w W0:=by rw [hW0];exact (Br w).alloc _
     rw [<- hW0]
     clear hW0
     have hbw:b<w.heap.size:=by omega
     replace p0:=(Bel.cells hB0 _ _ hbw).trans p0
     replace p1:=(Bel.cells hB0 _ _ hbw).trans p1
     replace p2:=(Bel.cells hB0 _ _ hbw).trans p2
     replace p3:=(Bel.cells hB0 _ _ hbw).trans p3
     replace p4:=(Bel.cells hB0 _ _ hbw).trans p4
     replace p5:=(Bel.cells hB0 _ _ hbw).trans p5
     replace p6:=(Bel.cells hB0 _ _ hbw).trans p6
     replace p7:=(Bel.cells hB0 _ _ hbw).trans p7
     replace p8:=(Bel.cells hB0 _ _ hbw).trans p8
     have x1:=hx0.cell 1
     simp only [Ze,Zd] at x1
     have HB0:=lH hB0
     have HX0:=lH hx0
     have hlt0:=hx0.lt
     clear hB0 hx0
     go_upto_region 3 with fail
     obtain ⟨W1,hW1⟩:∃ W1:World,W1=W0.alloc (.cells #[.bool xl,.string ⟨xt.toArray⟩,.string ⟨xx.toArray⟩,.slice aa xa.length ac,.int .i64 xu,.slice ka xk.length kc,.bool xh,.slice sa xs.length sc,.bool xi] 65):=⟨_,rfl⟩
     have hx1:Blk W1 w.heap.size [.int .i64 5,.int .i64 (p:Int),.int .i64 dest,.int .i64 before,.string ⟨nm.toArray⟩,.string ⟨value.toArray⟩] 40:=by rw [hW1];exact HX0.o.bel ((Br W0).alloc _)
     have hn1:Blk W1 W0.heap.size [.bool xl,.string ⟨xt.toArray⟩,.string ⟨xx.toArray⟩,.slice aa xa.length ac,.int .i64 xu,.slice ka xk.length kc,.bool xh,.slice sa xs.length sc,.bool xi] 65:=by rw [hW1];exact Blk.new' _ _ rfl _ _
     have hB1:Bel w W1:=by rw [hW1];exact HB0.o.alloc _
     rw [<- hW1]
     clear hW1 p0 p1 p2 p3 p4 p5 p6 p7 p8 x1 HX0 HB0
     have x0:=hx1.cell 0
     have x1:=hx1.cell 1
     have x2:=hx1.cell 2
     have x3:=hx1.cell 3
     have x4:=hx1.cell 4
     have x5:=hx1.cell 5
     have n0:=hn1.cell 0
     have n1:=hn1.cell 1
     have n2:=hn1.cell 2
     have n3:=hn1.cell 3
     have n4:=hn1.cell 4
     have n5:=hn1.cell 5
     have n6:=hn1.cell 6
     have n7:=hn1.cell 7
     have n8:=hn1.cell 8
     have fn:=hn1.frozen
     simp only [Ze,Zd] at x0 x1 x2 x3 x4 x5 n0 n1 n2 n3 n4 n5 n6 n7 n8
     have HB1:=lH hB1
     have HXB:=lH hx1
     have HNB:=lH hn1
     have hsz1:=hB1.size
     have hg1:=hx1.lt
     have hg2:=hn1.lt
     clear hB1 hx1 hn1
     go_upto_region 73 with (first | (go_at_call 110;refine (HNO.o _ _).mono ?_;rintro e w1 ⟨rfl,rfl⟩) | (go_at_call 115;refine (cN.o _).mono ?_;rintro e w1 ⟨rfl,rfl⟩) | (go_at_call 116;refine (cA.o _ HB1.o).mono ?_;rintro e wa ⟨ba,ya,rfl,ua,rfl,oa⟩;obtain ⟨y5,z5,rfl,_,_⟩:=Rf oa.read;have n3:=(HNB.o.bel ba).cell 3;have f3:=(HNB.o.bel ba).frozen 3;simp only [Ze,Zd] at n3;have HBA:=lH ba;have HOA:=lH oa;clear ba oa))
     refine qKj (E:=fun W=>Bel w W/\Blk W w.heap.size [.int .i64 5,.int .i64 (p:Int),.int .i64 dest,.int .i64 before,.string ⟨nm.toArray⟩,.string ⟨value.toArray⟩] 40/\qH5 W.heap.size W W0.heap.size { live:=xl,tag:=xt,text:=xx,attrs:=qJj xa nm value,up:=xu,kids:=xk,hasS:=xh,shadow:=xs,inS:=xi } (.slice y5 (qJj xa nm value).length z5) (.slice ka xk.length kc) (.slice sa xs.length sc)) ?_ ?_
     ·exact ⟨(Bt HB1.o HBA.o).setCell _ _ _ (by omega),(HXB.o.bel HBA.o).other _ _ (by simp;omega),(HNB.o.bel HBA.o).set 3 _,qFi HOA.o hg2,qQ6.up PK.o ((Bt HB1.o HBA.o).setCell _ _ _ (by omega)) hm,qQ6.up PS.o ((Bt HB1.o HBA.o).setCell _ _ _ (by omega)) hm⟩
     rintro W2 ⟨hB2,hX2,hN2,hA2,hK2,hS2⟩
     clear x0 x1 x2 x3 x4 x5 n0 n1 n2 n3 n4 n5 n6 n7 n8 fn
     have x1:=hX2.cell 1
     have n0:=hN2.cell 0
     have n1:=hN2.cell 1
     have n2:=hN2.cell 2
     have n3:=hN2.cell 3
     have n4:=hN2.cell 4
     have n5:=hN2.cell 5
     have n6:=hN2.cell 6
     have n7:=hN2.cell 7
     have n8:=hN2.cell 8
     simp only [Ze,Zd] at x1 n0 n1 n2 n3 n4 n5 n6 n7 n8
     have cW:=lH (qQw W2.heap.size _ d p { live:=xl,tag:=xt,text:=xx,attrs:=qJj xa nm value,up:=xu,kids:=xk,hasS:=xh,shadow:=xs,inS:=xi } _ _ _ W2.drew (HV.o.up hB2 hm) (Zb _) (by omega) (by omega) hA2 hK2 hS2)
     have HS:Hi (∀ W,Bel W2 W->W.cell? ⟨w.heap.size,1,none⟩=some (.int .i64 (p:Int))/\W.cell? ⟨W0.heap.size,0,none⟩=some (.bool xl)/\W.cell? ⟨W0.heap.size,1,none⟩=some (.string ⟨(xt:Txt).toArray⟩)/\W.cell? ⟨W0.heap.size,2,none⟩=some (.string ⟨(xx:Txt).toArray⟩)/\W.cell? ⟨W0.heap.size,3,none⟩=some (.slice y5 (qJj xa nm value).length z5)/\W.cell? ⟨W0.heap.size,4,none⟩=some (.int .i64 xu)/\W.cell? ⟨W0.heap.size,5,none⟩=some (.slice ka xk.length kc)/\W.cell? ⟨W0.heap.size,6,none⟩=some (.bool xh)/\W.cell? ⟨W0.heap.size,7,none⟩=some (.slice sa xs.length sc)/\W.cell? ⟨W0.heap.size,8,none⟩=some (.bool xi)):=lH (fun W hb=>⟨(hX2.bel hb).cell 1,(hN2.bel hb).cell 0,(hN2.bel hb).cell 1,(hN2.bel hb).cell 2,(hN2.bel hb).cell 3,(hN2.bel hb).cell 4,(hN2.bel hb).cell 5,(hN2.bel hb).cell 6,(hN2.bel hb).cell 7,(hN2.bel hb).cell 8⟩)
     have HB2:=lH hB2
     clear hB2 hX2 hN2 hA2 hK2 hS2
     go_region_held (fun w'=>w'.cell? ⟨w.heap.size,1,none⟩=some (.int .i64 (p:Int))/\w'.cell? ⟨W0.heap.size,0,none⟩=some (.bool xl)/\w'.cell? ⟨W0.heap.size,1,none⟩=some (.string ⟨(xt:Txt).toArray⟩)/\w'.cell? ⟨W0.heap.size,2,none⟩=some (.string ⟨(xx:Txt).toArray⟩)/\w'.cell? ⟨W0.heap.size,3,none⟩=some (.slice y5 (qJj xa nm value).length z5)/\w'.cell? ⟨W0.heap.size,4,none⟩=some (.int .i64 xu)/\w'.cell? ⟨W0.heap.size,5,none⟩=some (.slice ka xk.length kc)/\w'.cell? ⟨W0.heap.size,6,none⟩=some (.bool xh)/\w'.cell? ⟨W0.heap.size,7,none⟩=some (.slice sa xs.length sc)/\w'.cell? ⟨W0.heap.size,8,none⟩=some (.bool xi)) (first | exact HS.o _ (Br W2).drew | exact HS.o _ HB24.o) (first | (go_at_call 114;refine cW.o.mono ?_;rintro e w4 ⟨b4,x4,rfl,o4⟩;obtain ⟨y4,z4,rfl,_,_⟩:=Rf o4;have HB24:=lH (Bt (Br W2).drew b4);have HB4:=lH (Bt HB2.o.drew b4);have HD4:=lH o4;clear b4 o4))
     all_goals
      go_wp2_with fail
      go_ret3
      exact qQc.yes HR.o HB4.o HD4.o
theorem qYz (m:Nat) (v:Value) (d:Dc) (x:Chg) (w:World) (hv:qQq m w v d) (hm:m<=w.heap.size) (hd:d.length<=60) (hk:x.kind=6) (hi:isM d x.node false=true) (hnm:x.name.length<=9223372036854775807) (hl:x.value.length<=9223372036854775807) (htag0:(nd d x.node).tag≠[]) (hax0:(nd d x.node).attrs.length<=8) :
 Calls Tryz.prog 68 #[v,chgV x] w (qQc w (qXt d x)):=by
 obtain ⟨kind,node,dest,before,nm,value⟩:=x
 simp only at hk hi hl hnm
 subst hk
 obtain ⟨p,hpp,rfl,-⟩:=qZg.1 hi
 obtain ⟨b,off,cap',av,kv,sv,rfl,v1,v2,hbb,hP⟩:=hv.node p hpp
 have p0:=hP.live
 have p1:=hP.tag
 have p2:=hP.text
 have p3:=hP.atts
 have p4:=hP.up
 have p5:=hP.kids
 have p6:=hP.hasS
 have p7:=hP.shadow
 have p8:=hP.inS
 have PA:=lH hP.attsAt
 have PK:=lH hP.kidsAt
 have PS:=lH hP.shadowAt
 have HX:=lH (qQv hpp)
 have HI:=lH hi
 clear hP hi
 generalize hXX:d[p]=X at *
 obtain ⟨xl,xt,xx,xa,xu,xk,xh,xs,xi⟩:=X
 simp only at p0 p1 p2 p3 p4 p5 p6 p7 p8 PA PK PS
 obtain ⟨ka,kc,rfl,k1,k2⟩:=Rf PK.o
 obtain ⟨sa,sc,rfl,s1,s2⟩:=Rf PS.o
 obtain ⟨aa,ac,rfl,a1,a2⟩:=Rf PA.o
 have HV:=lH hv
 have HXX:=lH hXX
 clear hv hXX
 have HNO:=lH qQt
 have htag:xt≠[]:=by have:=htag0;simp only [HX.o] at this;exact this
 have hbt:xt.isEmpty=false:=by simpa using htag
 clear htag0
 have hax:xa.length<=8:=by have:=hax0;simp only [HX.o] at this;exact this
 clear hax0
 cases ha:qKr d (p:Int) nm with
 | none=>
   have HR:Hi (qXt d { kind:=6,node:=(p:Int),dest:=dest,before:=before,name:=nm,value:=value }=(6,0,[])):=lH (by
    unfold qXt;rw [if_pos (by simp only [ha];rfl)])
   unfold chgV
   go_enter Tryz.func68,Tryz.ntmps68
   go_upto_region 2 with fail
   obtain ⟨W0,hW0⟩:∃ W0:World,W0=w.alloc (.cells #[.int .i64 6,.int .i64 (p:Int),.int .i64 dest,.int .i64 before,.string ⟨nm.toArray⟩,.string ⟨value.toArray⟩] 40):=⟨_,rfl⟩
   have hx0:Blk W0 w.heap.size [.int .i64 6,.int .i64 (p:Int),.int .i64 dest,.int .i64 before,.string ⟨nm.toArray⟩,.string ⟨value.toArray⟩] 40:=by rw [hW0];exact Blk.new' _ _ rfl _ _
   have hB0:Bel w W0:=by rw [hW0];exact (Br w).alloc _
   rw [<- hW0]
   clear hW0
   have hbw:b<w.heap.size:=by omega
   replace p0:=(Bel.cells hB0 _ _ hbw).trans p0
   replace p1:=(Bel.cells hB0 _ _ hbw).trans p1
   replace p2:=(Bel.cells hB0 _ _ hbw).trans p2
   replace p3:=(Bel.cells hB0 _ _ hbw).trans p3
   replace p4:=(Bel.cells hB0 _ _ hbw).trans p4
   replace p5:=(Bel.cells hB0 _ _ hbw).trans p5
   replace p6:=(Bel.cells hB0 _ _ hbw).trans p6
   replace p7:=(Bel.cells hB0 _ _ hbw).trans p7
   replace p8:=(Bel.cells hB0 _ _ hbw).trans p8
   have x1:=hx0.cell 1
   simp only [Ze,Zd] at x1
   have HB0:=lH hB0
   have HX0:=lH hx0
   have hlt0:=hx0.lt
   clear hB0 hx0
   go_upto_region 3 with fail
   obtain ⟨W1,hW1⟩:∃ W1:World,W1=W0.alloc (.cells #[.bool xl,.string ⟨xt.toArray⟩,.string ⟨xx.toArray⟩,.slice aa xa.length ac,.int .i64 xu,.slice ka xk.length kc,.bool xh,.slice sa xs.length sc,.bool xi] 65):=⟨_,rfl⟩
   have hx1:Blk W1 w.heap.size [.int .i64 6,.int .i64 (p:Int),.int .i64 dest,.int .i64 before,.string ⟨nm.toArray⟩,.string ⟨value.toArray⟩] 40:=by rw [hW1];exact HX0.o.bel ((Br W0).alloc _)
   have hn1:Blk W1 W0.heap.size [.bool xl,.string ⟨xt.toArray⟩,.string ⟨xx.toArray⟩,.slice aa xa.length ac,.int .i64 xu,.slice ka xk.length kc,.bool xh,.slice sa xs.length sc,.bool xi] 65:=by rw [hW1];exact Blk.new' _ _ rfl _ _
   have hB1:Bel w W1:=by rw [hW1];exact HB0.o.alloc _
   rw [<- hW1]
   clear hW1 p0 p1 p2 p3 p4 p5 p6 p7 p8 x1 HX0 HB0
   have x0:=hx1.cell 0
   have x1:=hx1.cell 1
   have x2:=hx1.cell 2
   have x3:=hx1.cell 3
   have x4:=hx1.cell 4
   have x5:=hx1.cell 5
   have n0:=hn1.cell 0
   have n1:=hn1.cell 1
   have n2:=hn1.cell 2
   have n3:=hn1.cell 3
   have n4:=hn1.cell 4
   have n5:=hn1.cell 5
   have n6:=hn1.cell 6
   have n7:=hn1.cell 7
   have n8:=hn1.cell 8
   have fn:=hn1.frozen
   simp only [Ze,Zd] at x0 x1 x2 x3 x4 x5 n0 n1 n2 n3 n4 n5 n6 n7 n8
   have HB1:=lH hB1
   have HXB:=lH hx1
   have HNB:=lH hn1
   have hsz1:=hB1.size
   have hg1:=hx1.lt
   have hg2:=hn1.lt
   clear hB1 hx1 hn1
   have cT:Hi (Calls Tryz.prog 27 #[.slice (some ⟨b,off,none⟩) d.length cap',.int .i64 (p:Int),.string ⟨nm.toArray⟩] W1 (Rb (.tuple #[.string ⟨([]:Txt).toArray⟩,.bool false]) W1)):=lH (by
    have:=qXs m _ d p nm W1 (HV.o.later HB1.o hm) (Za hm HB1.o.size)
    rw [ha] at this
    exact this)
   clear ha
   go_wp2_with (first | (go_at_call 110;refine (HNO.o _ _).mono ?_;rintro e w1 ⟨rfl,rfl⟩) | (go_at_call 27;refine cT.o.mono ?_;rintro e wA ⟨rfl,bA⟩;have n3:=(HNB.o.bel bA).cell 3;have x4:=(HXB.o.bel bA).cell 4;simp only [Ze,Zd] at n3 x4;have HBT:=lH bA;clear bA))
   go_ret3
   exact qQc.no HR.o (Bt HB1.o HBT.o)
 | some av0=>
   have HR:Hi (qXt d { kind:=6,node:=(p:Int),dest:=dest,before:=before,name:=nm,value:=value }=(0,(p:Int),qQn d p { live:=xl,tag:=xt,text:=xx,attrs:=xa.filter (fun a=>a.name != nm),up:=xu,kids:=xk,hasS:=xh,shadow:=xs,inS:=xi })):=lH (by
    unfold qXt;rw [if_neg (by simp only [ha];simp)];simp only [HX.o];rfl)
   unfold chgV
   go_enter Tryz.func68,Tryz.ntmps68
   go_upto_region 2 with fail
   obtain ⟨W0,hW0⟩:∃ W0:World,W0=w.alloc (.cells #[.int .i64 6,.int .i64 (p:Int),.int .i64 dest,.int .i64 before,.string ⟨nm.toArray⟩,.string ⟨value.toArray⟩] 40):=⟨_,rfl⟩
   have hx0:Blk W0 w.heap.size [.int .i64 6,.int .i64 (p:Int),.int .i64 dest,.int .i64 before,.string ⟨nm.toArray⟩,.string ⟨value.toArray⟩] 40:=by rw [hW0];exact Blk.new' _ _ rfl _ _
   have hB0:Bel w W0:=by rw [hW0];exact (Br w).alloc _
   rw [<- hW0]
   clear hW0
   have hbw:b<w.heap.size:=by omega
   replace p0:=(Bel.cells hB0 _ _ hbw).trans p0
   replace p1:=(Bel.cells hB0 _ _ hbw).trans p1
   replace p2:=(Bel.cells hB0 _ _ hbw).trans p2
   replace p3:=(Bel.cells hB0 _ _ hbw).trans p3
   replace p4:=(Bel.cells hB0 _ _ hbw).trans p4
   replace p5:=(Bel.cells hB0 _ _ hbw).trans p5
   replace p6:=(Bel.cells hB0 _ _ hbw).trans p6
   replace p7:=(Bel.cells hB0 _ _ hbw).trans p7
   replace p8:=(Bel.cells hB0 _ _ hbw).trans p8
   have x1:=hx0.cell 1
   simp only [Ze,Zd] at x1
   have HB0:=lH hB0
   have HX0:=lH hx0
   have hlt0:=hx0.lt
   clear hB0 hx0
   go_upto_region 3 with fail
   obtain ⟨W1,hW1⟩:∃ W1:World,W1=W0.alloc (.cells #[.bool xl,.string ⟨xt.toArray⟩,.string ⟨xx.toArray⟩,.slice aa xa.length ac,.int .i64 xu,.slice ka xk.length kc,.bool xh,.slice sa xs.length sc,.bool xi] 65):=⟨_,rfl⟩
   have hx1:Blk W1 w.heap.size [.int .i64 6,.int .i64 (p:Int),.int .i64 dest,.int .i64 before,.string ⟨nm.toArray⟩,.string ⟨value.toArray⟩] 40:=by rw [hW1];exact HX0.o.bel ((Br W0).alloc _)
   have hn1:Blk W1 W0.heap.size [.bool xl,.string ⟨xt.toArray⟩,.string ⟨xx.toArray⟩,.slice aa xa.length ac,.int .i64 xu,.slice ka xk.length kc,.bool xh,.slice sa xs.length sc,.bool xi] 65:=by rw [hW1];exact Blk.new' _ _ rfl _ _
   have hB1:Bel w W1:=by rw [hW1];exact HB0.o.alloc _
   rw [<- hW1]
   clear hW1 p0 p1 p2 p3 p4 p5 p6 p7 p8 x1 HX0 HB0
   have x0:=hx1.cell 0
   have x1:=hx1.cell 1
   have x2:=hx1.cell 2
   have x3:=hx1.cell 3
   have x4:=hx1.cell 4
   have x5:=hx1.cell 5
   have n0:=hn1.cell 0
   have n1:=hn1.cell 1
   have n2:=hn1.cell 2
   have n3:=hn1.cell 3
   have n4:=hn1.cell 4
   have n5:=hn1.cell 5
   have n6:=hn1.cell 6
   have n7:=hn1.cell 7
   have n8:=hn1.cell 8
   have fn:=hn1.frozen
   simp only [Ze,Zd] at x0 x1 x2 x3 x4 x5 n0 n1 n2 n3 n4 n5 n6 n7 n8
   have HB1:=lH hB1
   have HXB:=lH hx1
   have HNB:=lH hn1
   have hsz1:=hB1.size
   have hg1:=hx1.lt
   have hg2:=hn1.lt
   clear hB1 hx1 hn1
   have cT:Hi (Calls Tryz.prog 27 #[.slice (some ⟨b,off,none⟩) d.length cap',.int .i64 (p:Int),.string ⟨nm.toArray⟩] W1 (Rb (.tuple #[.string ⟨av0.toArray⟩,.bool true]) W1)):=lH (by
    have:=qXs m _ d p nm W1 (HV.o.later HB1.o hm) (Za hm HB1.o.size)
    rw [ha] at this
    exact this)
   clear ha
   go_wp2_with (first | (go_at_call 110;refine (HNO.o _ _).mono ?_;rintro e w1 ⟨rfl,rfl⟩) | (go_at_call 27;refine cT.o.mono ?_;rintro e wA ⟨rfl,bA⟩;have n3:=(HNB.o.bel bA).cell 3;have x4:=(HXB.o.bel bA).cell 4;simp only [Ze,Zd] at n3 x4;have HBT:=lH bA;clear bA))
   have hsA:=HBT.o.size
   go_loopw [285,18] (fun i o wr=>∃ (j:Nat) (out:List Att),j<=xa.length/\i=.int .i64 j/\out=(xa.take j).filter (fun a=>a.name != nm)/\qQg 2 qX4 wA.heap.size 106 wr o out/\Bel wA wr) (fun i _ _=>xa.length - (intOf i).toNat)
   case atStart=>exact ⟨0,[],by omega,rfl,rfl,qQg.nil _ _ _,Br _⟩
   case round=>
    obtain ⟨j,out,hj,rfl,hP,hO,hB⟩:=hrel
    have HP:=lH hP
    have HO:=lH hO
    have HBR:=lH hB
    have HBM:=lH (Bt HBT.o hB)
    have HBW:=lH (Bt HB1.o HBM.o)
    have hsr:=hB.size
    obtain ⟨oa,ocap,rfl,o1,o2⟩:=Rf hO.read
    have hol:out.length<=8:=by
     rw [hP];exact Za (List.length_filter_le _ _) (by rw [List.length_take];omega)
    have hR:=qQb.later PA.o qQh HBW.o hm
    clear hP hO hB n3 x4
    have n3:=(HNB.o.bel HBM.o).cell 3
    have f3:=(HNB.o.bel HBM.o).frozen 3
    have x4:=(HXB.o.bel HBM.o).cell 4
    simp only [Ze,Zd] at n3 x4
    by_cases hlt:j<xa.length
    ·obtain ⟨_,_,_,_,e1,_,_,_,_⟩:=qQb.elem hR j hlt
     simp at e1
     obtain ⟨rfl,rfl⟩:=e1
     obtain ⟨c0,c1⟩:=qVe hR j hlt
     have hst:Hi ((xa.take (j+1)).filter (fun a=>a.name != nm)=if xa[j].name=nm then out else out++[xa[j]]):=lH (by
      rw [Zk hlt,List.filter_append,<- HP.o]
      split <;> rename_i h <;> simp [h])
     clear hR
     generalize xa[j]=e at *
     obtain ⟨en,ev⟩:=e
     simp only at c0 c1
     have x4b:=((HXB.o.bel HBM.o).bel ((Br wr).alloc (.cells #[.string ⟨en.toArray⟩,.string ⟨ev.toArray⟩] 106))).cell 4
     simp only [Ze,Zd] at x4b
     by_cases hx:en=nm
     ·have hb:(en==nm)=true:=by simpa using hx
      have hs2:=lH (hst.o.trans (if_pos hx))
      clear hst hx
      go_wp2
      go_roundw
      case rel=>exact ⟨j+1,out,by omega,by go_num,hs2.o.symm,HO.o.alloc qQh _,HBR.o.alloc _⟩
      case measure=>simp [intOf];omega
     ·have hb:(en==nm)=false:=by simpa using hx
      have hs2:=lH (hst.o.trans (if_neg hx))
      clear hst hx
      go_wp2_with (at_builtin;go_must (refine qZa rfl _ _ _ rfl qJs (by decide) qQh qKy rfl (HO.o.alloc qQh _) rfl ?hg (⟨en,ev⟩:Att) ⟨rfl,rfl⟩ ?hb1 ?hb2 ?hb3 ?_);(case hg=>simp);(case hb1=>omega);(case hb2=>omega);(case hb3=>simp;omega);intro v1 w1 o1 g1;have HO1:=lH o1;have HBR1:=lH (Below.own (HBR.o.alloc _) (Zb _) (HO.o.alloc qQh _) g1);clear o1 g1)
      go_roundw
      case rel=>exact ⟨j+1,out++[⟨en,ev⟩],by omega,by go_num,hs2.o.symm,HO1.o,HBR1.o⟩
      case measure=>simp [intOf];omega
    ·have HE:Hi (out=xa.filter (fun a=>a.name != nm)):=lH (by rw [HP.o,Zn (by omega)])
     clear hR
     rw [<- HE.o] at HR
     go_upto_region 73 with fail
     refine qKj (E:=fun W=>Bel w W/\Blk W w.heap.size [.int .i64 6,.int .i64 (p:Int),.int .i64 dest,.int .i64 before,.string ⟨nm.toArray⟩,.string ⟨value.toArray⟩] 40/\qH5 W.heap.size W W0.heap.size { live:=xl,tag:=xt,text:=xx,attrs:=out,up:=xu,kids:=xk,hasS:=xh,shadow:=xs,inS:=xi } (.slice oa out.length ocap) (.slice ka xk.length kc) (.slice sa xs.length sc)) ?_ ?_
     ·exact ⟨HBW.o.setCell _ _ _ (by omega),(HXB.o.bel HBM.o).other _ _ (by simp;omega),(HNB.o.bel HBM.o).set 3 _,qFi HO.o (by omega),qQ6.up PK.o (HBW.o.setCell _ _ _ (by omega)) hm,qQ6.up PS.o (HBW.o.setCell _ _ _ (by omega)) hm⟩
     rintro W2 ⟨hB2,hX2,hN2,hA2,hK2,hS2⟩
     clear x0 x1 x2 x3 x4 x5 n0 n1 n2 n3 n4 n5 n6 n7 n8 fn
     have x1:=hX2.cell 1
     have n0:=hN2.cell 0
     have n1:=hN2.cell 1
     have n2:=hN2.cell 2
     have n3:=hN2.cell 3
     have n4:=hN2.cell 4
     have n5:=hN2.cell 5
     have n6:=hN2.cell 6
     have n7:=hN2.cell 7
     have n8:=hN2.cell 8
     simp only [Ze,Zd] at x1 n0 n1 n2 n3 n4 n5 n6 n7 n8
     have cW:=lH (qQw W2.heap.size _ d p { live:=xl,tag:=xt,text:=xx,attrs:=out,up:=xu,kids:=xk,hasS:=xh,shadow:=xs,inS:=xi } _ _ _ W2.drew (HV.o.up hB2 hm) (Zb _) (by omega) (by omega) hA2 hK2 hS2)
     have HS:Hi (∀ W,Bel W2 W->W.cell? ⟨w.heap.size,1,none⟩=some (.int .i64 (p:Int))/\W.cell? ⟨W0.heap.size,0,none⟩=some (.bool xl)/\W.cell? ⟨W0.heap.size,1,none⟩=some (.string ⟨(xt:Txt).toArray⟩)/\W.cell? ⟨W0.heap.size,2,none⟩=some (.string ⟨(xx:Txt).toArray⟩)/\W.cell? ⟨W0.heap.size,3,none⟩=some (.slice oa out.length ocap)/\W.cell? ⟨W0.heap.size,4,none⟩=some (.int .i64 xu)/\W.cell? ⟨W0.heap.size,5,none⟩=some (.slice ka xk.length kc)/\W.cell? ⟨W0.heap.size,6,none⟩=some (.bool xh)/\W.cell? ⟨W0.heap.size,7,none⟩=some (.slice sa xs.length sc)/\W.cell? ⟨W0.heap.size,8,none⟩=some (.bool xi)):=lH (fun W hb=>⟨(hX2.bel hb).cell 1,(hN2.bel hb).cell 0,(hN2.bel hb).cell 1,(hN2.bel hb).cell 2,(hN2.bel hb).cell 3,(hN2.bel hb).cell 4,(hN2.bel hb).cell 5,(hN2.bel hb).cell 6,(hN2.bel hb).cell 7,(hN2.bel hb).cell 8⟩)
     have HB2:=lH hB2
     clear hB2 hX2 hN2 hA2 hK2 hS2
     go_region_held (fun w'=>w'.cell? ⟨w.heap.size,1,none⟩=some (.int .i64 (p:Int))/\w'.cell? ⟨W0.heap.size,0,none⟩=some (.bool xl)/\w'.cell? ⟨W0.heap.size,1,none⟩=some (.string ⟨(xt:Txt).toArray⟩)/\w'.cell? ⟨W0.heap.size,2,none⟩=some (.string ⟨(xx:Txt).toArray⟩)/\w'.cell? ⟨W0.heap.size,3,none⟩=some (.slice oa out.length ocap)/\w'.cell? ⟨W0.heap.size,4,none⟩=some (.int .i64 xu)/\w'.cell? ⟨W0.heap.size,5,none⟩=some (.slice ka xk.length kc)/\w'.cell? ⟨W0.heap.size,6,none⟩=some (.bool xh)/\w'.cell? ⟨W0.heap.size,7,none⟩=some (.slice sa xs.length sc)/\w'.cell? ⟨W0.heap.size,8,none⟩=some (.bool xi)) (first | exact HS.o _ (Br W2).drew | exact HS.o _ HB24.o) (first | (go_at_call 114;refine cW.o.mono ?_;rintro e w4 ⟨b4,x4,rfl,o4⟩;obtain ⟨y4,z4,rfl,_,_⟩:=Rf o4;have HB24:=lH (Bt (Br W2).drew b4);have HB4:=lH (Bt HB2.o.drew b4);have HD4:=lH o4;clear b4 o4))
     all_goals
      go_wp2_with fail
      go_ret3
      exact qQc.yes HR.o HB4.o HD4.o
end Go.Proofs.YtklbmkaomojciaaGreat
