/- Changes of a document: the document's answer, walked: a node is moved, or removed; whatever the kind. -/
import Derived.Test.YtklbmkaomojciaaGreatRefChA
import Derived.Test.YtklbmkaomojciaaGreatRefChB
set_option maxRecDepth 100000
set_option maxHeartbeats 4000000
namespace Go.Proofs.YtklbmkaomojciaaGreat
open Go.RowKit
theorem qV3 (m:Nat) (v:Value) (d:Dc) (x:Chg) (w:World) (hv:qQq m w v d) (hm:m<=w.heap.size) (hd:d.length<=60) (hk:x.kind=3) (hi:isM d x.node false=true) (hnm:x.name.length<=9223372036854775807) (hl:x.value.length<=9223372036854775807) (g:Good d) :
 Calls Tryz.prog 68 #[v,chgV x] w (qQc w (qXw d x)):=by
 obtain ⟨kind,node,dest,before,nm,value⟩:=x
 simp only at hk hi hl hnm
 subst hk
 obtain ⟨p,hpp,rfl,-⟩:=qZg.1 hi
 obtain ⟨b,off,cap',av,kv,sv,rfl,v1,v2,hbb,hP⟩:=hv.node p hpp
 have p0:=hP.live
 have p1:=hP.tag
 have p2:=hP.text
 have p3:=hP.atts
 have p4:=hP.up
 have p5:=hP.kids
 have p6:=hP.hasS
 have p7:=hP.shadow
 have p8:=hP.inS
 have PA:=lH hP.attsAt
 have PK:=lH hP.kidsAt
 have PS:=lH hP.shadowAt
 have HX:=lH (qQv hpp)
 have HI:=lH hi
 clear hP hi
 generalize hXX:d[p]=X at *
 obtain ⟨xl,xt,xx,xa,xu,xk,xh,xs,xi⟩:=X
 simp only at p0 p1 p2 p3 p4 p5 p6 p7 p8 PA PK PS
 obtain ⟨ka,kc,rfl,k1,k2⟩:=Rf PK.o
 obtain ⟨sa,sc,rfl,s1,s2⟩:=Rf PS.o
 obtain ⟨aa,ac,rfl,a1,a2⟩:=Rf PA.o
 have HV:=lH hv
 have HXX:=lH hXX
 clear hv hXX
 have HNO:=lH qQt
 by_cases h0:p=0
 ·have hp0:((p:Int)==0)=true:=by simp [h0]
  have HR:Hi (qXw d { kind:=3,node:=(p:Int),dest:=dest,before:=before,name:=nm,value:=value }=(8,0,[])):=lH (by
   unfold qXw;rw [if_pos (by simp [h0])])
  clear h0
  unfold chgV
  go_enter Tryz.func68,Tryz.ntmps68
  go_upto_region 2 with fail
  obtain ⟨W0,hW0⟩:∃ W0:World,W0=w.alloc (.cells #[.int .i64 3,.int .i64 (p:Int),.int .i64 dest,.int .i64 before,.string ⟨nm.toArray⟩,.string ⟨value.toArray⟩] 40):=⟨_,rfl⟩
  have hx0:Blk W0 w.heap.size [.int .i64 3,.int .i64 (p:Int),.int .i64 dest,.int .i64 before,.string ⟨nm.toArray⟩,.string ⟨value.toArray⟩] 40:=by rw [hW0];exact Blk.new' _ _ rfl _ _
  have hB0:Bel w W0:=by rw [hW0];exact (Br w).alloc _
  rw [<- hW0]
  clear hW0
  have hbw:b<w.heap.size:=by omega
  replace p0:=(Bel.cells hB0 _ _ hbw).trans p0
  replace p1:=(Bel.cells hB0 _ _ hbw).trans p1
  replace p2:=(Bel.cells hB0 _ _ hbw).trans p2
  replace p3:=(Bel.cells hB0 _ _ hbw).trans p3
  replace p4:=(Bel.cells hB0 _ _ hbw).trans p4
  replace p5:=(Bel.cells hB0 _ _ hbw).trans p5
  replace p6:=(Bel.cells hB0 _ _ hbw).trans p6
  replace p7:=(Bel.cells hB0 _ _ hbw).trans p7
  replace p8:=(Bel.cells hB0 _ _ hbw).trans p8
  have x1:=hx0.cell 1
  simp only [Ze,Zd] at x1
  have HB0:=lH hB0
  have HX0:=lH hx0
  have hlt0:=hx0.lt
  clear hB0 hx0
  go_upto_region 3 with fail
  obtain ⟨W1,hW1⟩:∃ W1:World,W1=W0.alloc (.cells #[.bool xl,.string ⟨xt.toArray⟩,.string ⟨xx.toArray⟩,.slice aa xa.length ac,.int .i64 xu,.slice ka xk.length kc,.bool xh,.slice sa xs.length sc,.bool xi] 65):=⟨_,rfl⟩
  have hx1:Blk W1 w.heap.size [.int .i64 3,.int .i64 (p:Int),.int .i64 dest,.int .i64 before,.string ⟨nm.toArray⟩,.string ⟨value.toArray⟩] 40:=by rw [hW1];exact HX0.o.bel ((Br W0).alloc _)
  have hn1:Blk W1 W0.heap.size [.bool xl,.string ⟨xt.toArray⟩,.string ⟨xx.toArray⟩,.slice aa xa.length ac,.int .i64 xu,.slice ka xk.length kc,.bool xh,.slice sa xs.length sc,.bool xi] 65:=by rw [hW1];exact Blk.new' _ _ rfl _ _
  have hB1:Bel w W1:=by rw [hW1];exact HB0.o.alloc _
  rw [<- hW1]
  clear hW1 p0 p1 p2 p3 p4 p5 p6 p7 p8 x1 HX0 HB0
  have x0:=hx1.cell 0
  have x1:=hx1.cell 1
  have x2:=hx1.cell 2
  have x3:=hx1.cell 3
  have x4:=hx1.cell 4
  have x5:=hx1.cell 5
  have n0:=hn1.cell 0
  have n1:=hn1.cell 1
  have n2:=hn1.cell 2
  have n3:=hn1.cell 3
  have n4:=hn1.cell 4
  have n5:=hn1.cell 5
  have n6:=hn1.cell 6
  have n7:=hn1.cell 7
  have n8:=hn1.cell 8
  have fn:=hn1.frozen
  simp only [Ze,Zd] at x0 x1 x2 x3 x4 x5 n0 n1 n2 n3 n4 n5 n6 n7 n8
  have HB1:=lH hB1
  have HXB:=lH hx1
  have HNB:=lH hn1
  have hsz1:=hB1.size
  have hg1:=hx1.lt
  have hg2:=hn1.lt
  clear hB1 hx1 hn1
  go_wp2_with (first | (go_at_call 110;refine (HNO.o _ _).mono ?_;rintro e w1 ⟨rfl,rfl⟩))
  go_ret3
  first | exact qQc.no HR.o HB1.o | exact qQc.no HR.o (HB1.o.alloc _)
 ·have hp0:((p:Int)==0)=false:=by simp;omega
  cases ht:isM d dest true with
  | false=>
    have cI:Hi (∀ W,Bel w W->Calls Tryz.prog 28 #[.slice (some ⟨b,off,none⟩) d.length cap',.int .i64 dest,.bool true] W (Rv (.bool false) W)):=lH (fun W h=>by
     have:=qZb m _ d dest true W (HV.o.later h hm)
     rw [ht] at this
     exact this)
    have HR:Hi (qXw d { kind:=3,node:=(p:Int),dest:=dest,before:=before,name:=nm,value:=value }=(8,0,[])):=lH (by
     unfold qXw;rw [if_pos (by simp [ht])])
    clear ht
    unfold chgV
    go_enter Tryz.func68,Tryz.ntmps68
    go_upto_region 2 with fail
    obtain ⟨W0,hW0⟩:∃ W0:World,W0=w.alloc (.cells #[.int .i64 3,.int .i64 (p:Int),.int .i64 dest,.int .i64 before,.string ⟨nm.toArray⟩,.string ⟨value.toArray⟩] 40):=⟨_,rfl⟩
    have hx0:Blk W0 w.heap.size [.int .i64 3,.int .i64 (p:Int),.int .i64 dest,.int .i64 before,.string ⟨nm.toArray⟩,.string ⟨value.toArray⟩] 40:=by rw [hW0];exact Blk.new' _ _ rfl _ _
    have hB0:Bel w W0:=by rw [hW0];exact (Br w).alloc _
    rw [<- hW0]
    clear hW0
    have hbw:b<w.heap.size:=by omega
    replace p0:=(Bel.cells hB0 _ _ hbw).trans p0
    replace p1:=(Bel.cells hB0 _ _ hbw).trans p1
    replace p2:=(Bel.cells hB0 _ _ hbw).trans p2
    replace p3:=(Bel.cells hB0 _ _ hbw).trans p3
    replace p4:=(Bel.cells hB0 _ _ hbw).trans p4
    replace p5:=(Bel.cells hB0 _ _ hbw).trans p5
    replace p6:=(Bel.cells hB0 _ _ hbw).trans p6
    replace p7:=(Bel.cells hB0 _ _ hbw).trans p7
    replace p8:=(Bel.cells hB0 _ _ hbw).trans p8
    have x1:=hx0.cell 1
    simp only [Ze,Zd] at x1
    have HB0:=lH hB0
    have HX0:=lH hx0
    have hlt0:=hx0.lt
    clear hB0 hx0
    go_upto_region 3 with fail
    obtain ⟨W1,hW1⟩:∃ W1:World,W1=W0.alloc (.cells #[.bool xl,.string ⟨xt.toArray⟩,.string ⟨xx.toArray⟩,.slice aa xa.length ac,.int .i64 xu,.slice ka xk.length kc,.bool xh,.slice sa xs.length sc,.bool xi] 65):=⟨_,rfl⟩
    have hx1:Blk W1 w.heap.size [.int .i64 3,.int .i64 (p:Int),.int .i64 dest,.int .i64 before,.string ⟨nm.toArray⟩,.string ⟨value.toArray⟩] 40:=by rw [hW1];exact HX0.o.bel ((Br W0).alloc _)
    have hn1:Blk W1 W0.heap.size [.bool xl,.string ⟨xt.toArray⟩,.string ⟨xx.toArray⟩,.slice aa xa.length ac,.int .i64 xu,.slice ka xk.length kc,.bool xh,.slice sa xs.length sc,.bool xi] 65:=by rw [hW1];exact Blk.new' _ _ rfl _ _
    have hB1:Bel w W1:=by rw [hW1];exact HB0.o.alloc _
    rw [<- hW1]
    clear hW1 p0 p1 p2 p3 p4 p5 p6 p7 p8 x1 HX0 HB0
    have x0:=hx1.cell 0
    have x1:=hx1.cell 1
    have x2:=hx1.cell 2
    have x3:=hx1.cell 3
    have x4:=hx1.cell 4
    have x5:=hx1.cell 5
    have n0:=hn1.cell 0
    have n1:=hn1.cell 1
    have n2:=hn1.cell 2
    have n3:=hn1.cell 3
    have n4:=hn1.cell 4
    have n5:=hn1.cell 5
    have n6:=hn1.cell 6
    have n7:=hn1.cell 7
    have n8:=hn1.cell 8
    have fn:=hn1.frozen
    simp only [Ze,Zd] at x0 x1 x2 x3 x4 x5 n0 n1 n2 n3 n4 n5 n6 n7 n8
    have HB1:=lH hB1
    have HXB:=lH hx1
    have HNB:=lH hn1
    have hsz1:=hB1.size
    have hg1:=hx1.lt
    have hg2:=hn1.lt
    clear hB1 hx1 hn1
    go_wp2_with (first | (go_at_call 110;refine (HNO.o _ _).mono ?_;rintro e w1 ⟨rfl,rfl⟩) | (go_at_call 28;refine (cI.o _ HB1.o).mono ?_;rintro e wi ⟨rfl,rfl⟩))
    go_ret3
    first | exact qQc.no HR.o HB1.o | exact qQc.no HR.o (HB1.o.alloc _)
  | true=>
    cases hw:qKz d dest (p:Int) with
    | true=>
      have cI:Hi (∀ W,Bel w W->Calls Tryz.prog 28 #[.slice (some ⟨b,off,none⟩) d.length cap',.int .i64 dest,.bool true] W (Rv (.bool true) W)):=lH (fun W h=>by
       have:=qZb m _ d dest true W (HV.o.later h hm)
       rw [ht] at this
       exact this)
      have cV:Hi (∀ W,Bel w W->Calls Tryz.prog 111 #[.slice (some ⟨b,off,none⟩) d.length cap',.int .i64 dest,.int .i64 (p:Int)] W (Rb (.bool true) W)):=lH (fun W h=>by
       have:=qJb m _ d dest p W (HV.o.later h hm) (Za hm h.size) (by omega)
       rw [hw] at this
       exact this)
      have HR:Hi (qXw d { kind:=3,node:=(p:Int),dest:=dest,before:=before,name:=nm,value:=value }=(9,0,[])):=lH (by
       unfold qXw;rw [if_neg (by simp [ht];omega),if_pos (by simp [hw])])
      clear ht hw
      unfold chgV
      go_enter Tryz.func68,Tryz.ntmps68
      go_upto_region 2 with fail
      obtain ⟨W0,hW0⟩:∃ W0:World,W0=w.alloc (.cells #[.int .i64 3,.int .i64 (p:Int),.int .i64 dest,.int .i64 before,.string ⟨nm.toArray⟩,.string ⟨value.toArray⟩] 40):=⟨_,rfl⟩
      have hx0:Blk W0 w.heap.size [.int .i64 3,.int .i64 (p:Int),.int .i64 dest,.int .i64 before,.string ⟨nm.toArray⟩,.string ⟨value.toArray⟩] 40:=by rw [hW0];exact Blk.new' _ _ rfl _ _
      have hB0:Bel w W0:=by rw [hW0];exact (Br w).alloc _
      rw [<- hW0]
      clear hW0
      have hbw:b<w.heap.size:=by omega
      replace p0:=(Bel.cells hB0 _ _ hbw).trans p0
      replace p1:=(Bel.cells hB0 _ _ hbw).trans p1
      replace p2:=(Bel.cells hB0 _ _ hbw).trans p2
      replace p3:=(Bel.cells hB0 _ _ hbw).trans p3
      replace p4:=(Bel.cells hB0 _ _ hbw).trans p4
      replace p5:=(Bel.cells hB0 _ _ hbw).trans p5
      replace p6:=(Bel.cells hB0 _ _ hbw).trans p6
      replace p7:=(Bel.cells hB0 _ _ hbw).trans p7
      replace p8:=(Bel.cells hB0 _ _ hbw).trans p8
      have x1:=hx0.cell 1
      simp only [Ze,Zd] at x1
      have HB0:=lH hB0
      have HX0:=lH hx0
      have hlt0:=hx0.lt
      clear hB0 hx0
      go_upto_region 3 with fail
      obtain ⟨W1,hW1⟩:∃ W1:World,W1=W0.alloc (.cells #[.bool xl,.string ⟨xt.toArray⟩,.string ⟨xx.toArray⟩,.slice aa xa.length ac,.int .i64 xu,.slice ka xk.length kc,.bool xh,.slice sa xs.length sc,.bool xi] 65):=⟨_,rfl⟩
      have hx1:Blk W1 w.heap.size [.int .i64 3,.int .i64 (p:Int),.int .i64 dest,.int .i64 before,.string ⟨nm.toArray⟩,.string ⟨value.toArray⟩] 40:=by rw [hW1];exact HX0.o.bel ((Br W0).alloc _)
      have hn1:Blk W1 W0.heap.size [.bool xl,.string ⟨xt.toArray⟩,.string ⟨xx.toArray⟩,.slice aa xa.length ac,.int .i64 xu,.slice ka xk.length kc,.bool xh,.slice sa xs.length sc,.bool xi] 65:=by rw [hW1];exact Blk.new' _ _ rfl _ _
      have hB1:Bel w W1:=by rw [hW1];exact HB0.o.alloc _
      rw [<- hW1]
      clear hW1 p0 p1 p2 p3 p4 p5 p6 p7 p8 x1 HX0 HB0
      have x0:=hx1.cell 0
      have x1:=hx1.cell 1
      have x2:=hx1.cell 2
      have x3:=hx1.cell 3
      have x4:=hx1.cell 4
      have x5:=hx1.cell 5
      have n0:=hn1.cell 0
      have n1:=hn1.cell 1
      have n2:=hn1.cell 2
      have n3:=hn1.cell 3
      have n4:=hn1.cell 4
      have n5:=hn1.cell 5
      have n6:=hn1.cell 6
      have n7:=hn1.cell 7
      have n8:=hn1.cell 8
      have fn:=hn1.frozen
      simp only [Ze,Zd] at x0 x1 x2 x3 x4 x5 n0 n1 n2 n3 n4 n5 n6 n7 n8
      have HB1:=lH hB1
      have HXB:=lH hx1
      have HNB:=lH hn1
      have hsz1:=hB1.size
      have hg1:=hx1.lt
      have hg2:=hn1.lt
      clear hB1 hx1 hn1
      go_wp2_with (first | (go_at_call 110;refine (HNO.o _ _).mono ?_;rintro e w1 ⟨rfl,rfl⟩) | (go_at_call 28;refine (cI.o _ HB1.o).mono ?_;rintro e wi ⟨rfl,rfl⟩) | (go_at_call 111;refine (cV.o _ HB1.o).mono ?_;rintro e wv ⟨rfl,bv⟩;have x1:=(HXB.o.bel bv).cell 1;have x2:=(HXB.o.bel bv).cell 2;have x3:=(HXB.o.bel bv).cell 3;have n0:=(HNB.o.bel bv).cell 0;have n1:=(HNB.o.bel bv).cell 1;have n2:=(HNB.o.bel bv).cell 2;have n3:=(HNB.o.bel bv).cell 3;have n4:=(HNB.o.bel bv).cell 4;have n5:=(HNB.o.bel bv).cell 5;have n6:=(HNB.o.bel bv).cell 6;have n7:=(HNB.o.bel bv).cell 7;have n8:=(HNB.o.bel bv).cell 8;simp only [Ze,Zd] at x1 x2 x3 n0 n1 n2 n3 n4 n5 n6 n7 n8;have HBV:=lH bv;clear bv))
      go_ret3
      exact qQc.no HR.o (Bt HB1.o HBV.o)
    | false=>
      by_cases hbp:before=(p:Int)
      ·have hbb:(before==(p:Int))=true:=by simpa using hbp
       have cI:Hi (∀ W,Bel w W->Calls Tryz.prog 28 #[.slice (some ⟨b,off,none⟩) d.length cap',.int .i64 dest,.bool true] W (Rv (.bool true) W)):=lH (fun W h=>by
        have:=qZb m _ d dest true W (HV.o.later h hm)
        rw [ht] at this
        exact this)
       have cV:Hi (∀ W,Bel w W->Calls Tryz.prog 111 #[.slice (some ⟨b,off,none⟩) d.length cap',.int .i64 dest,.int .i64 (p:Int)] W (Rb (.bool false) W)):=lH (fun W h=>by
        have:=qJb m _ d dest p W (HV.o.later h hm) (Za hm h.size) (by omega)
        rw [hw] at this
        exact this)
       have HR:Hi (qXw d { kind:=3,node:=(p:Int),dest:=dest,before:=before,name:=nm,value:=value }=(8,0,[])):=lH (by
        unfold qXw;rw [if_neg (by simp [ht];omega),if_neg (by simp [hw]),if_pos (by simpa using hbp)])
       clear ht hw hbp
       unfold chgV
       go_enter Tryz.func68,Tryz.ntmps68
       go_upto_region 2 with fail
       obtain ⟨W0,hW0⟩:∃ W0:World,W0=w.alloc (.cells #[.int .i64 3,.int .i64 (p:Int),.int .i64 dest,.int .i64 before,.string ⟨nm.toArray⟩,.string ⟨value.toArray⟩] 40):=⟨_,rfl⟩
       have hx0:Blk W0 w.heap.size [.int .i64 3,.int .i64 (p:Int),.int .i64 dest,.int .i64 before,.string ⟨nm.toArray⟩,.string ⟨value.toArray⟩] 40:=by rw [hW0];exact Blk.new' _ _ rfl _ _
       have hB0:Bel w W0:=by rw [hW0];exact (Br w).alloc _
       rw [<- hW0]
       clear hW0
       have hbw:b<w.heap.size:=by omega
       replace p0:=(Bel.cells hB0 _ _ hbw).trans p0
       replace p1:=(Bel.cells hB0 _ _ hbw).trans p1
       replace p2:=(Bel.cells hB0 _ _ hbw).trans p2
       replace p3:=(Bel.cells hB0 _ _ hbw).trans p3
       replace p4:=(Bel.cells hB0 _ _ hbw).trans p4
       replace p5:=(Bel.cells hB0 _ _ hbw).trans p5
       replace p6:=(Bel.cells hB0 _ _ hbw).trans p6
       replace p7:=(Bel.cells hB0 _ _ hbw).trans p7
       replace p8:=(Bel.cells hB0 _ _ hbw).trans p8
       have x1:=hx0.cell 1
       simp only [Ze,Zd] at x1
       have HB0:=lH hB0
       have HX0:=lH hx0
       have hlt0:=hx0.lt
       clear hB0 hx0
       go_upto_region 3 with fail
       obtain ⟨W1,hW1⟩:∃ W1:World,W1=W0.alloc (.cells #[.bool xl,.string ⟨xt.toArray⟩,.string ⟨xx.toArray⟩,.slice aa xa.length ac,.int .i64 xu,.slice ka xk.length kc,.bool xh,.slice sa xs.length sc,.bool xi] 65):=⟨_,rfl⟩
       have hx1:Blk W1 w.heap.size [.int .i64 3,.int .i64 (p:Int),.int .i64 dest,.int .i64 before,.string ⟨nm.toArray⟩,.string ⟨value.toArray⟩] 40:=by rw [hW1];exact HX0.o.bel ((Br W0).alloc _)
       have hn1:Blk W1 W0.heap.size [.bool xl,.string ⟨xt.toArray⟩,.string ⟨xx.toArray⟩,.slice aa xa.length ac,.int .i64 xu,.slice ka xk.length kc,.bool xh,.slice sa xs.length sc,.bool xi] 65:=by rw [hW1];exact Blk.new' _ _ rfl _ _
       have hB1:Bel w W1:=by rw [hW1];exact HB0.o.alloc _
       rw [<- hW1]
       clear hW1 p0 p1 p2 p3 p4 p5 p6 p7 p8 x1 HX0 HB0
       have x0:=hx1.cell 0
       have x1:=hx1.cell 1
       have x2:=hx1.cell 2
       have x3:=hx1.cell 3
       have x4:=hx1.cell 4
       have x5:=hx1.cell 5
       have n0:=hn1.cell 0
       have n1:=hn1.cell 1
       have n2:=hn1.cell 2
       have n3:=hn1.cell 3
       have n4:=hn1.cell 4
       have n5:=hn1.cell 5
       have n6:=hn1.cell 6
       have n7:=hn1.cell 7
       have n8:=hn1.cell 8
       have fn:=hn1.frozen
       simp only [Ze,Zd] at x0 x1 x2 x3 x4 x5 n0 n1 n2 n3 n4 n5 n6 n7 n8
       have HB1:=lH hB1
       have HXB:=lH hx1
       have HNB:=lH hn1
       have hsz1:=hB1.size
       have hg1:=hx1.lt
       have hg2:=hn1.lt
       clear hB1 hx1 hn1
       go_wp2_with (first | (go_at_call 110;refine (HNO.o _ _).mono ?_;rintro e w1 ⟨rfl,rfl⟩) | (go_at_call 28;refine (cI.o _ HB1.o).mono ?_;rintro e wi ⟨rfl,rfl⟩) | (go_at_call 111;refine (cV.o _ HB1.o).mono ?_;rintro e wv ⟨rfl,bv⟩;have x1:=(HXB.o.bel bv).cell 1;have x2:=(HXB.o.bel bv).cell 2;have x3:=(HXB.o.bel bv).cell 3;have n0:=(HNB.o.bel bv).cell 0;have n1:=(HNB.o.bel bv).cell 1;have n2:=(HNB.o.bel bv).cell 2;have n3:=(HNB.o.bel bv).cell 3;have n4:=(HNB.o.bel bv).cell 4;have n5:=(HNB.o.bel bv).cell 5;have n6:=(HNB.o.bel bv).cell 6;have n7:=(HNB.o.bel bv).cell 7;have n8:=(HNB.o.bel bv).cell 8;simp only [Ze,Zd] at x1 x2 x3 n0 n1 n2 n3 n4 n5 n6 n7 n8;have HBV:=lH bv;clear bv))
       go_ret3
       exact qQc.no HR.o (Bt HB1.o HBV.o)
      ·have hbb:(before==(p:Int))=false:=by simpa using hbp
       have cI:Hi (∀ W,Bel w W->Calls Tryz.prog 28 #[.slice (some ⟨b,off,none⟩) d.length cap',.int .i64 dest,.bool true] W (Rv (.bool true) W)):=lH (fun W h=>by
        have:=qZb m _ d dest true W (HV.o.later h hm)
        rw [ht] at this
        exact this)
       have cV:Hi (∀ W,Bel w W->Calls Tryz.prog 111 #[.slice (some ⟨b,off,none⟩) d.length cap',.int .i64 dest,.int .i64 (p:Int)] W (Rb (.bool false) W)):=lH (fun W h=>by
        have:=qJb m _ d dest p W (HV.o.later h hm) (Za hm h.size) (by omega)
        rw [hw] at this
        exact this)
       have cT:Hi (∀ W,Bel w W->Calls Tryz.prog 112 #[.slice (some ⟨b,off,none⟩) d.length cap',.int .i64 (p:Int)] W (Rn W fun w' y=>qKf (fun b=>b<m∨(W.heap.size<=b/\b<w'.heap.size)) w' y (qZf d p))):=lH (fun W h=>
        qKv (·<m) _ d p W (HV.o.later h hm) (fun b hb=>Zc hb (Za hm h.size)) (by omega) HI.o (qW0 g HI.o (by omega)) (Za (qXn g _).1 (by omega)) (Za (qXn g _).2.1 (by omega)))
       have hok0:=zZe (n:=(p:Int)) (t:=dest) g.tree HI.o (by omega) ht hw
       simp only [HX.o,Int.toNat_natCast] at hok0
       obtain ⟨hok,hle⟩:=hok0
       have hfew:(listM (nd (qQn (qZf d (p:Int)) p { live:=xl,tag:=xt,text:=xx,attrs:=xa,up:=dest,kids:=xk,hasS:=xh,shadow:=xs,inS:=false }) dest) false).length<=12:=by obtain ⟨r,gr⟩:=hok.tree;exact (gr.ok dest).few false
       have hgr:(listM (nd (qQn (qZf d (p:Int)) p { live:=xl,tag:=xt,text:=xx,attrs:=xa,up:=dest,kids:=xk,hasS:=xh,shadow:=xs,inS:=false }) dest) false).length<12->qV4 (putD (qQn (qZf d (p:Int)) p { live:=xl,tag:=xt,text:=xx,attrs:=xa,up:=dest,kids:=xk,hasS:=xh,shadow:=xs,inS:=false }) (p:Int) dest before false) 100 p:=fun h=>by obtain ⟨r,gr,hk,_⟩:=hok.tree' (before:=before) h;exact qHq gr 100 _ hk (by omega)
       have cP:Hi (∀ W u,qQq W.heap.size W u (qQn (qZf d (p:Int)) p { live:=xl,tag:=xt,text:=xx,attrs:=xa,up:=dest,kids:=xk,hasS:=xh,shadow:=xs,inS:=false })->Calls Tryz.prog 113 #[u,.int .i64 (p:Int),.int .i64 dest,.int .i64 before,.bool false] W (Rn W fun w' y=>∃ u,y=.tuple #[u,.int .i64 (putM (qQn (qZf d (p:Int)) p { live:=xl,tag:=xt,text:=xx,attrs:=xa,up:=dest,kids:=xk,hasS:=xh,shadow:=xs,inS:=false }) p dest before false).1]/\qQq w'.heap.size w' u (putM (qQn (qZf d (p:Int)) p { live:=xl,tag:=xt,text:=xx,attrs:=xa,up:=dest,kids:=xk,hasS:=xh,shadow:=xs,inS:=false }) p dest before false).2)):=lH (fun W u h=>
        qJ9 W.heap.size u _ p dest before false W h (Zb _) (by omega) (qQ2 hok.to) hfew hgr)
       have hlen1:Hi ((qZf d (p:Int)).length=d.length):=lH (qJr (qW0 g HI.o (by omega)))
       have HR:Hi (qXw d { kind:=3,node:=(p:Int),dest:=dest,before:=before,name:=nm,value:=value }=((putM (qQn (qZf d (p:Int)) p { live:=xl,tag:=xt,text:=xx,attrs:=xa,up:=dest,kids:=xk,hasS:=xh,shadow:=xs,inS:=false }) p dest before false).1,(p:Int),(putM (qQn (qZf d (p:Int)) p { live:=xl,tag:=xt,text:=xx,attrs:=xa,up:=dest,kids:=xk,hasS:=xh,shadow:=xs,inS:=false }) p dest before false).2)):=lH (by
        unfold qXw;rw [if_neg (by simp [ht];omega),if_neg (by simp [hw]),if_neg (by simpa using hbp)];simp only [HX.o,Int.toNat_natCast])
       clear hok hle hfew hgr g ht hw hbp
       generalize putM (qQn (qZf d (p:Int)) p { live:=xl,tag:=xt,text:=xx,attrs:=xa,up:=dest,kids:=xk,hasS:=xh,shadow:=xs,inS:=false }) p dest before false=R at *
       generalize qZf d (p:Int)=D1 at *
       unfold chgV
       go_enter Tryz.func68,Tryz.ntmps68
       go_upto_region 2 with fail
       obtain ⟨W0,hW0⟩:∃ W0:World,W0=w.alloc (.cells #[.int .i64 3,.int .i64 (p:Int),.int .i64 dest,.int .i64 before,.string ⟨nm.toArray⟩,.string ⟨value.toArray⟩] 40):=⟨_,rfl⟩
       have hx0:Blk W0 w.heap.size [.int .i64 3,.int .i64 (p:Int),.int .i64 dest,.int .i64 before,.string ⟨nm.toArray⟩,.string ⟨value.toArray⟩] 40:=by rw [hW0];exact Blk.new' _ _ rfl _ _
       have hB0:Bel w W0:=by rw [hW0];exact (Br w).alloc _
       rw [<- hW0]
       clear hW0
       have hbw:b<w.heap.size:=by omega
       replace p0:=(Bel.cells hB0 _ _ hbw).trans p0
       replace p1:=(Bel.cells hB0 _ _ hbw).trans p1
       replace p2:=(Bel.cells hB0 _ _ hbw).trans p2
       replace p3:=(Bel.cells hB0 _ _ hbw).trans p3
       replace p4:=(Bel.cells hB0 _ _ hbw).trans p4
       replace p5:=(Bel.cells hB0 _ _ hbw).trans p5
       replace p6:=(Bel.cells hB0 _ _ hbw).trans p6
       replace p7:=(Bel.cells hB0 _ _ hbw).trans p7
       replace p8:=(Bel.cells hB0 _ _ hbw).trans p8
       have x1:=hx0.cell 1
       simp only [Ze,Zd] at x1
       have HB0:=lH hB0
       have HX0:=lH hx0
       have hlt0:=hx0.lt
       clear hB0 hx0
       go_upto_region 3 with fail
       obtain ⟨W1,hW1⟩:∃ W1:World,W1=W0.alloc (.cells #[.bool xl,.string ⟨xt.toArray⟩,.string ⟨xx.toArray⟩,.slice aa xa.length ac,.int .i64 xu,.slice ka xk.length kc,.bool xh,.slice sa xs.length sc,.bool xi] 65):=⟨_,rfl⟩
       have hx1:Blk W1 w.heap.size [.int .i64 3,.int .i64 (p:Int),.int .i64 dest,.int .i64 before,.string ⟨nm.toArray⟩,.string ⟨value.toArray⟩] 40:=by rw [hW1];exact HX0.o.bel ((Br W0).alloc _)
       have hn1:Blk W1 W0.heap.size [.bool xl,.string ⟨xt.toArray⟩,.string ⟨xx.toArray⟩,.slice aa xa.length ac,.int .i64 xu,.slice ka xk.length kc,.bool xh,.slice sa xs.length sc,.bool xi] 65:=by rw [hW1];exact Blk.new' _ _ rfl _ _
       have hB1:Bel w W1:=by rw [hW1];exact HB0.o.alloc _
       rw [<- hW1]
       clear hW1 p0 p1 p2 p3 p4 p5 p6 p7 p8 x1 HX0 HB0
       have x0:=hx1.cell 0
       have x1:=hx1.cell 1
       have x2:=hx1.cell 2
       have x3:=hx1.cell 3
       have x4:=hx1.cell 4
       have x5:=hx1.cell 5
       have n0:=hn1.cell 0
       have n1:=hn1.cell 1
       have n2:=hn1.cell 2
       have n3:=hn1.cell 3
       have n4:=hn1.cell 4
       have n5:=hn1.cell 5
       have n6:=hn1.cell 6
       have n7:=hn1.cell 7
       have n8:=hn1.cell 8
       have fn:=hn1.frozen
       simp only [Ze,Zd] at x0 x1 x2 x3 x4 x5 n0 n1 n2 n3 n4 n5 n6 n7 n8
       have HB1:=lH hB1
       have HXB:=lH hx1
       have HNB:=lH hn1
       have hsz1:=hB1.size
       have hg1:=hx1.lt
       have hg2:=hn1.lt
       clear hB1 hx1 hn1
       go_upto_region 13 with (first | (go_at_call 110;refine (HNO.o _ _).mono ?_;rintro e w1 ⟨rfl,rfl⟩) | (go_at_call 28;refine (cI.o _ HB1.o).mono ?_;rintro e wi ⟨rfl,rfl⟩) | (go_at_call 111;refine (cV.o _ HB1.o).mono ?_;rintro e wv ⟨rfl,bv⟩;have x1:=(HXB.o.bel bv).cell 1;have x2:=(HXB.o.bel bv).cell 2;have x3:=(HXB.o.bel bv).cell 3;have n0:=(HNB.o.bel bv).cell 0;have n1:=(HNB.o.bel bv).cell 1;have n2:=(HNB.o.bel bv).cell 2;have n3:=(HNB.o.bel bv).cell 3;have n4:=(HNB.o.bel bv).cell 4;have n5:=(HNB.o.bel bv).cell 5;have n6:=(HNB.o.bel bv).cell 6;have n7:=(HNB.o.bel bv).cell 7;have n8:=(HNB.o.bel bv).cell 8;simp only [Ze,Zd] at x1 x2 x3 n0 n1 n2 n3 n4 n5 n6 n7 n8;have HBV:=lH bv;clear bv) | (go_at_call 112;refine (cT.o _ (Bt HB1.o HBV.o)).mono ?_;rintro e wt ⟨bt,yt,rfl,ot⟩;obtain ⟨y3,z3,rfl,_,_⟩:=Rf ot;have x1:=(HXB.o.bel (Bt HBV.o bt)).cell 1;have x2:=(HXB.o.bel (Bt HBV.o bt)).cell 2;have x3:=(HXB.o.bel (Bt HBV.o bt)).cell 3;have n0:=(HNB.o.bel (Bt HBV.o bt)).cell 0;have n1:=(HNB.o.bel (Bt HBV.o bt)).cell 1;have n2:=(HNB.o.bel (Bt HBV.o bt)).cell 2;have n3:=(HNB.o.bel (Bt HBV.o bt)).cell 3;have n4:=(HNB.o.bel (Bt HBV.o bt)).cell 4;have n5:=(HNB.o.bel (Bt HBV.o bt)).cell 5;have n6:=(HNB.o.bel (Bt HBV.o bt)).cell 6;have n7:=(HNB.o.bel (Bt HBV.o bt)).cell 7;have n8:=(HNB.o.bel (Bt HBV.o bt)).cell 8;simp only [Ze,Zd] at x1 x2 x3 n0 n1 n2 n3 n4 n5 n6 n7 n8;have fn:=((HNB.o.bel (Bt HBV.o bt))).frozen;have HBVT:=lH (Bt HBV.o bt);have HDT:=lH ot;clear bt ot))
       refine qKj (E:=fun W=>Bel w W/\Blk W w.heap.size [.int .i64 3,.int .i64 (p:Int),.int .i64 dest,.int .i64 before,.string ⟨nm.toArray⟩,.string ⟨value.toArray⟩] 40/\qH5 W.heap.size W W0.heap.size { live:=xl,tag:=xt,text:=xx,attrs:=xa,up:=dest,kids:=xk,hasS:=xh,shadow:=xs,inS:=false } (.slice aa xa.length ac) (.slice ka xk.length kc) (.slice sa xs.length sc)/\qQq W.heap.size W (.slice y3 D1.length z3) D1) ?_ ?_
       ·have hs1:=HBV.o.size
        have hs2:=HBVT.o.size
        exact ⟨((Bt HB1.o HBVT.o).setCell _ _ _ (by omega)).setCell _ _ _ (by omega),((HXB.o.bel HBVT.o).other _ _ (by simp;omega)).other _ _ (by simp;omega),⟨((HNB.o.bel HBVT.o).set 4 _).set 8 _,qZy.up PA.o (((Bt HB1.o HBVT.o).setCell _ _ _ (by omega)).setCell _ _ _ (by omega)) hm,qQ6.up PK.o (((Bt HB1.o HBVT.o).setCell _ _ _ (by omega)).setCell _ _ _ (by omega)) hm,qQ6.up PS.o (((Bt HB1.o HBVT.o).setCell _ _ _ (by omega)).setCell _ _ _ (by omega)) hm⟩,doc_set2 HDT.o (by omega) (by omega) (by omega)⟩
       rintro W2 ⟨hB2,hX2,⟨hN2,hA2,hK2,hS2⟩,hD2⟩
       clear x0 x1 x2 x3 x4 x5 n0 n1 n2 n3 n4 n5 n6 n7 n8 fn
       have x1:=hX2.cell 1
       have x2:=hX2.cell 2
       have x3:=hX2.cell 3
       have n0:=hN2.cell 0
       have n1:=hN2.cell 1
       have n2:=hN2.cell 2
       have n3:=hN2.cell 3
       have n4:=hN2.cell 4
       have n5:=hN2.cell 5
       have n6:=hN2.cell 6
       have n7:=hN2.cell 7
       have n8:=hN2.cell 8
       simp only [Ze,Zd] at x1 x2 x3 n0 n1 n2 n3 n4 n5 n6 n7 n8
       have cW:=lH (qQw W2.heap.size _ D1 p { live:=xl,tag:=xt,text:=xx,attrs:=xa,up:=dest,kids:=xk,hasS:=xh,shadow:=xs,inS:=false } _ _ _ W2.drew hD2 (Zb _) (by have:=hlen1.o;omega) (by have:=hlen1.o;omega) hA2 hK2 hS2)
       have HS:Hi (∀ W,Bel W2 W->(W.cell? ⟨w.heap.size,1,none⟩=some (.int .i64 (p:Int))/\W.cell? ⟨w.heap.size,2,none⟩=some (.int .i64 dest)/\W.cell? ⟨w.heap.size,3,none⟩=some (.int .i64 before))/\W.cell? ⟨W0.heap.size,0,none⟩=some (.bool xl)/\W.cell? ⟨W0.heap.size,1,none⟩=some (.string ⟨(xt:Txt).toArray⟩)/\W.cell? ⟨W0.heap.size,2,none⟩=some (.string ⟨(xx:Txt).toArray⟩)/\W.cell? ⟨W0.heap.size,3,none⟩=some (.slice aa xa.length ac)/\W.cell? ⟨W0.heap.size,4,none⟩=some (.int .i64 dest)/\W.cell? ⟨W0.heap.size,5,none⟩=some (.slice ka xk.length kc)/\W.cell? ⟨W0.heap.size,6,none⟩=some (.bool xh)/\W.cell? ⟨W0.heap.size,7,none⟩=some (.slice sa xs.length sc)/\W.cell? ⟨W0.heap.size,8,none⟩=some (.bool false)):=lH (fun W hb=>⟨⟨(hX2.bel hb).cell 1,(hX2.bel hb).cell 2,(hX2.bel hb).cell 3⟩,(hN2.bel hb).cell 0,(hN2.bel hb).cell 1,(hN2.bel hb).cell 2,(hN2.bel hb).cell 3,(hN2.bel hb).cell 4,(hN2.bel hb).cell 5,(hN2.bel hb).cell 6,(hN2.bel hb).cell 7,(hN2.bel hb).cell 8⟩)
       have HB2:=lH hB2
       clear hB2 hX2 hN2 hA2 hK2 hS2 hD2
       go_region_held (fun w'=>(w'.cell? ⟨w.heap.size,1,none⟩=some (.int .i64 (p:Int))/\w'.cell? ⟨w.heap.size,2,none⟩=some (.int .i64 dest)/\w'.cell? ⟨w.heap.size,3,none⟩=some (.int .i64 before))/\w'.cell? ⟨W0.heap.size,0,none⟩=some (.bool xl)/\w'.cell? ⟨W0.heap.size,1,none⟩=some (.string ⟨(xt:Txt).toArray⟩)/\w'.cell? ⟨W0.heap.size,2,none⟩=some (.string ⟨(xx:Txt).toArray⟩)/\w'.cell? ⟨W0.heap.size,3,none⟩=some (.slice aa xa.length ac)/\w'.cell? ⟨W0.heap.size,4,none⟩=some (.int .i64 dest)/\w'.cell? ⟨W0.heap.size,5,none⟩=some (.slice ka xk.length kc)/\w'.cell? ⟨W0.heap.size,6,none⟩=some (.bool xh)/\w'.cell? ⟨W0.heap.size,7,none⟩=some (.slice sa xs.length sc)/\w'.cell? ⟨W0.heap.size,8,none⟩=some (.bool false)) (first | exact HS.o _ (Br W2).drew | exact HS.o _ HB24.o | exact HS.o _ HB25.o) (first | (go_at_call 114;refine cW.o.mono ?_;rintro e w4 ⟨b4,x4,rfl,o4⟩;have HB24:=lH (Bt (Br W2).drew b4);have HD4:=lH o4;clear b4 o4) | (go_at_call 113;refine (cP.o _ _ HD4.o).mono ?_;rintro e w5 ⟨b5,x5,rfl,u5,rfl,o5⟩;obtain ⟨y5,z5,rfl,_,_⟩:=Rf o5;have HB25:=lH (Bt HB24.o b5);have y1:=(HS.o _ HB25.o).1.1;have HB5:=lH (Bt HB2.o HB25.o);have HD5:=lH o5;clear b5 o5))
       all_goals
        go_wp2
        go_quiet (fail)
        go_wp2
        go_ret3
        exact qQc.any HR.o (HB5.o.drewN _) (HD5.o.up ((Br w5).drewN _) (Zb _))
theorem qYl (m:Nat) (v:Value) (d:Dc) (x:Chg) (w:World) (hv:qQq m w v d) (hm:m<=w.heap.size) (hd:d.length<=60) (hk:x.kind=4) (hi:isM d x.node false=true) (hnm:x.name.length<=9223372036854775807) (hl:x.value.length<=9223372036854775807) (g:Good d) :
 Calls Tryz.prog 68 #[v,chgV x] w (qQc w (qKe d x)):=by
 obtain ⟨kind,node,dest,before,nm,value⟩:=x
 simp only at hk hi hl hnm
 subst hk
 obtain ⟨p,hpp,rfl,-⟩:=qZg.1 hi
 obtain ⟨b,off,cap',av,kv,sv,rfl,v1,v2,hbb,hP⟩:=hv.node p hpp
 have p0:=hP.live
 have p1:=hP.tag
 have p2:=hP.text
 have p3:=hP.atts
 have p4:=hP.up
 have p5:=hP.kids
 have p6:=hP.hasS
 have p7:=hP.shadow
 have p8:=hP.inS
 have PA:=lH hP.attsAt
 have PK:=lH hP.kidsAt
 have PS:=lH hP.shadowAt
 have HX:=lH (qQv hpp)
 have HI:=lH hi
 clear hP hi
 generalize hXX:d[p]=X at *
 obtain ⟨xl,xt,xx,xa,xu,xk,xh,xs,xi⟩:=X
 simp only at p0 p1 p2 p3 p4 p5 p6 p7 p8 PA PK PS
 obtain ⟨ka,kc,rfl,k1,k2⟩:=Rf PK.o
 obtain ⟨sa,sc,rfl,s1,s2⟩:=Rf PS.o
 obtain ⟨aa,ac,rfl,a1,a2⟩:=Rf PA.o
 have HV:=lH hv
 have HXX:=lH hXX
 clear hv hXX
 have HNO:=lH qQt
 by_cases h0:p=0
 ·have hp0:((p:Int)==0)=true:=by simp [h0]
  have HR:Hi (qKe d { kind:=4,node:=(p:Int),dest:=dest,before:=before,name:=nm,value:=value }=(8,0,[])):=lH (by
   unfold qKe;rw [if_pos (by simp [h0])])
  clear h0
  unfold chgV
  go_enter Tryz.func68,Tryz.ntmps68
  go_upto_region 2 with fail
  obtain ⟨W0,hW0⟩:∃ W0:World,W0=w.alloc (.cells #[.int .i64 4,.int .i64 (p:Int),.int .i64 dest,.int .i64 before,.string ⟨nm.toArray⟩,.string ⟨value.toArray⟩] 40):=⟨_,rfl⟩
  have hx0:Blk W0 w.heap.size [.int .i64 4,.int .i64 (p:Int),.int .i64 dest,.int .i64 before,.string ⟨nm.toArray⟩,.string ⟨value.toArray⟩] 40:=by rw [hW0];exact Blk.new' _ _ rfl _ _
  have hB0:Bel w W0:=by rw [hW0];exact (Br w).alloc _
  rw [<- hW0]
  clear hW0
  have hbw:b<w.heap.size:=by omega
  replace p0:=(Bel.cells hB0 _ _ hbw).trans p0
  replace p1:=(Bel.cells hB0 _ _ hbw).trans p1
  replace p2:=(Bel.cells hB0 _ _ hbw).trans p2
  replace p3:=(Bel.cells hB0 _ _ hbw).trans p3
  replace p4:=(Bel.cells hB0 _ _ hbw).trans p4
  replace p5:=(Bel.cells hB0 _ _ hbw).trans p5
  replace p6:=(Bel.cells hB0 _ _ hbw).trans p6
  replace p7:=(Bel.cells hB0 _ _ hbw).trans p7
  replace p8:=(Bel.cells hB0 _ _ hbw).trans p8
  have x1:=hx0.cell 1
  simp only [Ze,Zd] at x1
  have HB0:=lH hB0
  have HX0:=lH hx0
  have hlt0:=hx0.lt
  clear hB0 hx0
  go_upto_region 3 with fail
  obtain ⟨W1,hW1⟩:∃ W1:World,W1=W0.alloc (.cells #[.bool xl,.string ⟨xt.toArray⟩,.string ⟨xx.toArray⟩,.slice aa xa.length ac,.int .i64 xu,.slice ka xk.length kc,.bool xh,.slice sa xs.length sc,.bool xi] 65):=⟨_,rfl⟩
  have hx1:Blk W1 w.heap.size [.int .i64 4,.int .i64 (p:Int),.int .i64 dest,.int .i64 before,.string ⟨nm.toArray⟩,.string ⟨value.toArray⟩] 40:=by rw [hW1];exact HX0.o.bel ((Br W0).alloc _)
  have hn1:Blk W1 W0.heap.size [.bool xl,.string ⟨xt.toArray⟩,.string ⟨xx.toArray⟩,.slice aa xa.length ac,.int .i64 xu,.slice ka xk.length kc,.bool xh,.slice sa xs.length sc,.bool xi] 65:=by rw [hW1];exact Blk.new' _ _ rfl _ _
  have hB1:Bel w W1:=by rw [hW1];exact HB0.o.alloc _
  rw [<- hW1]
  clear hW1 p0 p1 p2 p3 p4 p5 p6 p7 p8 x1 HX0 HB0
  have x0:=hx1.cell 0
  have x1:=hx1.cell 1
  have x2:=hx1.cell 2
  have x3:=hx1.cell 3
  have x4:=hx1.cell 4
  have x5:=hx1.cell 5
  have n0:=hn1.cell 0
  have n1:=hn1.cell 1
  have n2:=hn1.cell 2
  have n3:=hn1.cell 3
  have n4:=hn1.cell 4
  have n5:=hn1.cell 5
  have n6:=hn1.cell 6
  have n7:=hn1.cell 7
  have n8:=hn1.cell 8
  have fn:=hn1.frozen
  simp only [Ze,Zd] at x0 x1 x2 x3 x4 x5 n0 n1 n2 n3 n4 n5 n6 n7 n8
  have HB1:=lH hB1
  have HXB:=lH hx1
  have HNB:=lH hn1
  have hsz1:=hB1.size
  have hg1:=hx1.lt
  have hg2:=hn1.lt
  clear hB1 hx1 hn1
  go_wp2_with (first | (go_at_call 110;refine (HNO.o _ _).mono ?_;rintro e w1 ⟨rfl,rfl⟩))
  go_ret3
  first | exact qQc.no HR.o HB1.o | exact qQc.no HR.o (HB1.o.alloc _)
 ·have hp0:((p:Int)==0)=false:=by simp;omega
  have cA:Hi (∀ W,Bel w W->Calls Tryz.prog 95 #[.slice (some ⟨b,off,none⟩) d.length cap',.int .i64 (p:Int)] W (Rn W fun w' x=>qQg 1 qQ3 W.heap.size 3 w' x (allM d p))):=lH (fun W h=>by
   obtain ⟨r,gr⟩:=g.tree
   exact qB2 100 m _ d p W (HV.o.later h hm) (Za hm h.size) (qHq gr 100 _ HI.o (by omega)).ends (Za (qFg gr HI.o) (by omega)))
  have cT:Hi (∀ W,Bel w W->Calls Tryz.prog 112 #[.slice (some ⟨b,off,none⟩) d.length cap',.int .i64 (p:Int)] W (Rn W fun w' y=>qKf (fun b=>b<m∨(W.heap.size<=b/\b<w'.heap.size)) w' y (qZf d p))):=lH (fun W h=>
   qKv (·<m) _ d p W (HV.o.later h hm) (fun b hb=>Zc hb (Za hm h.size)) (by omega) HI.o (qW0 g HI.o (by omega)) (Za (qXn g _).1 (by omega)) (Za (qXn g _).2.1 (by omega)))
  have hrng:Hi (∀ x∈allM d (p:Int),0<=x/\x.toNat<d.length):=lH (by
   obtain ⟨r,gr⟩:=g.tree
   intro x hx
   have:=qZs (zQm gr HI.o hx)
   omega)
  have hll:(allM d (p:Int)).length<=d.length:=by obtain ⟨r,gr⟩:=g.tree;exact qFg gr HI.o
  have hlen1:Hi ((qZf d (p:Int)).length=d.length):=lH (qJr (qW0 g HI.o (by omega)))
  have HR:Hi (qKe d { kind:=4,node:=(p:Int),dest:=dest,before:=before,name:=nm,value:=value }=(0,(p:Int),qQr (qZf d (p:Int)) (allM d (p:Int)))):=lH (by
   unfold qKe;rw [if_neg (by simp;omega)])
  clear g
  generalize qZf d (p:Int)=D1 at *
  generalize allM d (p:Int)=L at *
  unfold chgV
  go_enter Tryz.func68,Tryz.ntmps68
  go_upto_region 2 with fail
  obtain ⟨W0,hW0⟩:∃ W0:World,W0=w.alloc (.cells #[.int .i64 4,.int .i64 (p:Int),.int .i64 dest,.int .i64 before,.string ⟨nm.toArray⟩,.string ⟨value.toArray⟩] 40):=⟨_,rfl⟩
  have hx0:Blk W0 w.heap.size [.int .i64 4,.int .i64 (p:Int),.int .i64 dest,.int .i64 before,.string ⟨nm.toArray⟩,.string ⟨value.toArray⟩] 40:=by rw [hW0];exact Blk.new' _ _ rfl _ _
  have hB0:Bel w W0:=by rw [hW0];exact (Br w).alloc _
  rw [<- hW0]
  clear hW0
  have hbw:b<w.heap.size:=by omega
  replace p0:=(Bel.cells hB0 _ _ hbw).trans p0
  replace p1:=(Bel.cells hB0 _ _ hbw).trans p1
  replace p2:=(Bel.cells hB0 _ _ hbw).trans p2
  replace p3:=(Bel.cells hB0 _ _ hbw).trans p3
  replace p4:=(Bel.cells hB0 _ _ hbw).trans p4
  replace p5:=(Bel.cells hB0 _ _ hbw).trans p5
  replace p6:=(Bel.cells hB0 _ _ hbw).trans p6
  replace p7:=(Bel.cells hB0 _ _ hbw).trans p7
  replace p8:=(Bel.cells hB0 _ _ hbw).trans p8
  have x1:=hx0.cell 1
  simp only [Ze,Zd] at x1
  have HB0:=lH hB0
  have HX0:=lH hx0
  have hlt0:=hx0.lt
  clear hB0 hx0
  go_upto_region 3 with fail
  obtain ⟨W1,hW1⟩:∃ W1:World,W1=W0.alloc (.cells #[.bool xl,.string ⟨xt.toArray⟩,.string ⟨xx.toArray⟩,.slice aa xa.length ac,.int .i64 xu,.slice ka xk.length kc,.bool xh,.slice sa xs.length sc,.bool xi] 65):=⟨_,rfl⟩
  have hx1:Blk W1 w.heap.size [.int .i64 4,.int .i64 (p:Int),.int .i64 dest,.int .i64 before,.string ⟨nm.toArray⟩,.string ⟨value.toArray⟩] 40:=by rw [hW1];exact HX0.o.bel ((Br W0).alloc _)
  have hn1:Blk W1 W0.heap.size [.bool xl,.string ⟨xt.toArray⟩,.string ⟨xx.toArray⟩,.slice aa xa.length ac,.int .i64 xu,.slice ka xk.length kc,.bool xh,.slice sa xs.length sc,.bool xi] 65:=by rw [hW1];exact Blk.new' _ _ rfl _ _
  have hB1:Bel w W1:=by rw [hW1];exact HB0.o.alloc _
  rw [<- hW1]
  clear hW1 p0 p1 p2 p3 p4 p5 p6 p7 p8 x1 HX0 HB0
  have x0:=hx1.cell 0
  have x1:=hx1.cell 1
  have x2:=hx1.cell 2
  have x3:=hx1.cell 3
  have x4:=hx1.cell 4
  have x5:=hx1.cell 5
  have n0:=hn1.cell 0
  have n1:=hn1.cell 1
  have n2:=hn1.cell 2
  have n3:=hn1.cell 3
  have n4:=hn1.cell 4
  have n5:=hn1.cell 5
  have n6:=hn1.cell 6
  have n7:=hn1.cell 7
  have n8:=hn1.cell 8
  have fn:=hn1.frozen
  simp only [Ze,Zd] at x0 x1 x2 x3 x4 x5 n0 n1 n2 n3 n4 n5 n6 n7 n8
  have HB1:=lH hB1
  have HXB:=lH hx1
  have HNB:=lH hn1
  have hsz1:=hB1.size
  have hg1:=hx1.lt
  have hg2:=hn1.lt
  clear hB1 hx1 hn1
  go_wp2_with (first | (go_at_call 110;refine (HNO.o _ _).mono ?_;rintro e w1 ⟨rfl,rfl⟩) | (go_at_call 95;refine (cA.o _ HB1.o).mono ?_;rintro e wv ⟨bv,yv,rfl,ov⟩;obtain ⟨lv,lz,rfl,lz1,lz2⟩:=Rf ov.read;have x1:=(HXB.o.bel bv).cell 1;have x2:=(HXB.o.bel bv).cell 2;have x3:=(HXB.o.bel bv).cell 3;have n0:=(HNB.o.bel bv).cell 0;have n1:=(HNB.o.bel bv).cell 1;have n2:=(HNB.o.bel bv).cell 2;have n3:=(HNB.o.bel bv).cell 3;have n4:=(HNB.o.bel bv).cell 4;have n5:=(HNB.o.bel bv).cell 5;have n6:=(HNB.o.bel bv).cell 6;have n7:=(HNB.o.bel bv).cell 7;have n8:=(HNB.o.bel bv).cell 8;simp only [Ze,Zd] at x1 x2 x3 n0 n1 n2 n3 n4 n5 n6 n7 n8;have HBV:=lH bv;have HOV:=lH ov;clear bv ov) | (go_at_call 112;refine (cT.o _ (Bt HB1.o HBV.o)).mono ?_;rintro e wt ⟨bt,yt,rfl,ot⟩;obtain ⟨y3,z3,rfl,_,_⟩:=Rf ot;have x1:=(HXB.o.bel (Bt HBV.o bt)).cell 1;have x2:=(HXB.o.bel (Bt HBV.o bt)).cell 2;have x3:=(HXB.o.bel (Bt HBV.o bt)).cell 3;have n0:=(HNB.o.bel (Bt HBV.o bt)).cell 0;have n1:=(HNB.o.bel (Bt HBV.o bt)).cell 1;have n2:=(HNB.o.bel (Bt HBV.o bt)).cell 2;have n3:=(HNB.o.bel (Bt HBV.o bt)).cell 3;have n4:=(HNB.o.bel (Bt HBV.o bt)).cell 4;have n5:=(HNB.o.bel (Bt HBV.o bt)).cell 5;have n6:=(HNB.o.bel (Bt HBV.o bt)).cell 6;have n7:=(HNB.o.bel (Bt HBV.o bt)).cell 7;have n8:=(HNB.o.bel (Bt HBV.o bt)).cell 8;simp only [Ze,Zd] at x1 x2 x3 n0 n1 n2 n3 n4 n5 n6 n7 n8;have fn:=((HNB.o.bel (Bt HBV.o bt))).frozen;have HBVT:=lH (Bt HBV.o bt);have HDT:=lH ot;have HDT_BEL:=lH bt;clear bt ot))
  have hs1:=HBV.o.size
  have hs2:=HBVT.o.size
  have hs3:=HDT_BEL.o.size
  have HD0:=lH (docIn_at HDT.o (by omega))
  have HLT:=lH ((qQb.later HOV.o.read qQd HDT_BEL.o (Zb _)))
  clear x1 x2 x3 n0 n1 n2 n3 n4 n5 n6 n7 n8 fn x0 x4 x5
  go_loopw [116,0] (fun i o wr=>∃ (j:Nat),j<=L.length/\i=.int .i64 j/\qQq wr.heap.size wr o (qQr D1 (L.take j))/\Bel wt wr) (fun i _ _=>L.length - (intOf i).toNat)
  case atStart=>exact ⟨0,by omega,rfl,HD0.o,Br _⟩
  case round=>
   obtain ⟨j,hj,rfl,hD,hB⟩:=hrel
   have hR:=qQb.later HLT.o qQd hB (by omega)
   have HBR:=lH (Bt HBVT.o hB)
   have x1:=(HXB.o.bel HBR.o).cell 1
   simp only [Ze,Zd] at x1
   have hbl:Hi ((qQr D1 (L.take j)).length=d.length):=lH (by
    rw [zQv _ (fun x hx=>by rw [hlen1.o];exact hrng.o x (List.mem_of_mem_take hx)),hlen1.o])
   obtain ⟨oa,oc,rfl,o1,o2⟩:=Rf hD
   by_cases hlt:j<L.length
   ·obtain ⟨_,_,_,_,e1,_,_,_,_⟩:=qQb.elem hR j hlt
    simp at e1
    obtain ⟨rfl,rfl⟩:=e1
    have c0:=qQb.int_cell hR j hlt
    have hst:Hi (qQr D1 (L.take (j+1))=qQn (qQr D1 (L.take j)) L[j].toNat {}):=lH (by rw [Zk hlt,qDh])
    have hin:=hrng.o _ (Zl hlt)
    have hin2:Hi (L[j]=(L[j].toNat:Int)):=lH (by omega)
    clear hR
    generalize L[j].toNat=q at *
    rw [hin2.o] at c0
    clear hin2
    have hq:q<=d.length:=by omega
    clear hin
    generalize qQr D1 (L.take j)=E at *
    have cW:=lH (qQw wr.heap.size _ E q {} (.slice none 0 0) (.slice none 0 0) (.slice none 0 0) wr hD (Zb _) (by have:=hbl.o;omega) (by have:=hbl.o;omega) qQb.nil qQb.nil qQb.nil)
    have HB:=lH hB
    clear hD hB
    go_wp2_with (go_at_call 114;refine cW.o.mono ?_;rintro e w4 ⟨b4,x4,rfl,o4⟩;have HB4:=lH (Bt HB.o b4);have HD4:=lH o4;clear b4 o4)
    go_roundw
    case rel=>exact ⟨j+1,by omega,by go_num,by rw [hst.o];exact HD4.o,HB4.o⟩
    case measure=>simp [intOf];omega
   ·have hT2:L.take j=L:=Zn (by omega)
    rw [hT2] at hD hbl
    rw [hT2]
    have HD:=lH hD
    have HBB:=lH (Bt HB1.o HBR.o)
    generalize qQr D1 L=E at *
    clear hD hR hB hT2
    go_wp2
    go_quiet (fail)
    go_wp2
    go_ret3
    exact qQc.yes HR.o (HBB.o.drewN _) (HD.o.up ((Br wr).drewN _) (Zb _))
theorem qVh (m:Nat) (v:Value) (d:Dc) (x:Chg) (w:World) (hv:qQq m w v d) (hm:m<=w.heap.size) (g:Good d) (hi:isM d x.node false=true) (hn:x.name.length<=9223372036854775807) (hl:x.value.length<=9223372036854775807) (h1:1<=x.kind) (h2:x.kind<=10) :
 Calls Tryz.prog 68 #[v,chgV x] w (qQc w (qQ4 d x)):=by
 have hd:=g.len
 unfold qQ4
 by_cases k3:x.kind=3
 ·rw [if_pos k3];exact qV3 m v d x w hv hm hd k3 hi hn hl g
 rw [if_neg k3]
 by_cases k4:x.kind=4
 ·rw [if_pos k4];exact qYl m v d x w hv hm hd k4 hi hn hl g
 rw [if_neg k4]
 by_cases k7:x.kind=7
 ·rw [if_pos k7];exact qBd m v d x w hv hm hd k7 hi hn hl
 rw [if_neg k7]
 by_cases ht:(nd d x.node).tag=[]
 ·rw [if_pos (by simp [ht])]
  exact qV8 m v d x w hv hm hd (by omega) hi hn hl (by simpa using k3) (by simpa using k4) (by simpa using k7) ht
 rw [if_neg (by simpa using ht)]
 have hax:=(qXn g x.node).2.2
 by_cases k5:x.kind=5
 ·rw [if_pos k5];exact qWc m v d x w hv hm hd k5 hi hn hl ht hax
 rw [if_neg k5]
 by_cases k6:x.kind=6
 ·rw [if_pos k6];exact qYz m v d x w hv hm hd k6 hi hn hl ht hax
 rw [if_neg k6]
 by_cases k8:x.kind=8
 ·rw [if_pos k8];exact qYm m v d x w hv hm hd k8 hi hn hl ht
 rw [if_neg k8]
 by_cases k1:x.kind=1
 ·exact qBu m v d x w hv hm hd k1 hi hn hl g ht
 by_cases k2:x.kind=2
 ·exact qBq m v d x w hv hm hd k2 hi hn hl g ht
 by_cases k9:x.kind=9
 ·exact qBe m v d x w hv hm hd k9 hi hn hl g ht
 exact qV6 m v d x w hv hm hd (by omega) hi hn hl g ht
end Go.Proofs.YtklbmkaomojciaaGreat
