/- engine.Plain: walked. -/
import Derived.Test.YtklbmkaomojciaaGreatEngFn
set_option maxRecDepth 100000
set_option maxHeartbeats 4000000
namespace Go.Proofs.YtklbmkaomojciaaGreat
open Go.RowKit
theorem qG9 (s:Txt):(qJl.contains s=true/\(s=altT∨s=labelT∨s=qH8∨s=qFl∨s=alvlT∨s=achkT∨s=adisT∨s=chkT))∨(qJl.contains s=false/\(s==altT)=false/\(s==labelT)=false/\(s==qH8)=false/\(s==qFl)=false/\(s==alvlT)=false/\(s==achkT)=false/\(s==adisT)=false/\(s==chkT)=false):=by
 cases h:qJl.contains s with
 | true=>
   left
   refine ⟨rfl,?_⟩
   have:=List.contains_iff_mem.1 h
   simpa [qJl] using this
 | false=>
   right
   refine ⟨rfl,?_⟩
   have h2:s∉qJl:=fun h3=>by rw [List.contains_iff_mem.2 h3] at h;cases h
   simp only [qJl,List.mem_cons,List.not_mem_nil,or_false,not_or] at h2
   simpa only [beq_eq_false_iff_ne] using h2
theorem qX9 (x:Chg) (w:World) :
 Calls Tryz.prog 50 #[.agg #[.int .i64 x.kind,.int .i64 x.node,.int .i64 x.dest,.int .i64 x.before,.string ⟨x.name.toArray⟩,.string ⟨x.value.toArray⟩]] w (Rb (.bool (qJh x)) w):=by
 obtain ⟨k,n,d,b,nm,vl⟩:=x
 obtain ⟨w1,hw1⟩:∃ w1,w1=w.alloc (.cells #[.int .i64 k,.int .i64 n,.int .i64 d,.int .i64 b,.string ⟨nm.toArray⟩,.string ⟨vl.toArray⟩] 40):=⟨_,rfl⟩
 have hB:Bel w w1:=by rw [hw1];exact (Br w).alloc _
 have hK:Blk w1 w.heap.size [.int .i64 k,.int .i64 n,.int .i64 d,.int .i64 b,.string ⟨nm.toArray⟩,.string ⟨vl.toArray⟩] 40:=by rw [hw1];exact Blk.new' w _ rfl _ _
 have c0:=hK.cell 0
 have c4:=hK.cell 4
 simp only [Zd,Ze] at c0 c4
 have HB:=lH hB
 obtain ⟨R,hR⟩:∃ R,R=qJh ⟨k,n,d,b,nm,vl⟩:=⟨_,rfl⟩
 rw [<- hR]
 unfold qJh at hR
 simp only at hR
 have hk:k=7∨k=5∨k=6∨(k≠7/\k≠5/\k≠6):=by omega
 have hn:=qG9 nm
 clear hB hK
 rcases hk with rfl | rfl | rfl | ⟨h7,h5,h6⟩
 case' inl=>
  have HR:Hi (R=true):=lH (by rw [hR];rfl)
  clear hn
 case' inr.inl=>
  rcases hn with ⟨hc,rfl | rfl | rfl | rfl | rfl | rfl | rfl | rfl⟩ | ⟨hc,n1,n2,n3,n4,n5,n6,n7,n8⟩
 case' inr.inr.inl=>
  rcases hn with ⟨hc,rfl | rfl | rfl | rfl | rfl | rfl | rfl | rfl⟩ | ⟨hc,n1,n2,n3,n4,n5,n6,n7,n8⟩
 case' inr.inr.inr=>
  have e7:(k==7)=false:=by simpa using h7
  have e5:(k==5)=false:=by simpa using h5
  have e6:(k==6)=false:=by simpa using h6
  have HR:Hi (R=false):=lH (by rw [hR,e7,e5,e6];rfl)
  clear hn h7 h5 h6
 all_goals
  first
   | (rw [hc] at hR;have HR:=lH hR;clear hc hR;unfold altT labelT qH8 qFl alvlT achkT adisT chkT at *)
   | (rw [hc] at hR;have HR:=lH hR;clear hc hR)
   | clear hR
  go_enter Tryz.func50,Tryz.ntmps50
  go_upto_region 1 with fail
  rw [<- hw1]
  clear hw1
  go_wp2
  go_ret
  exact ⟨by rw [HR.o];rfl,HB.o⟩
end Go.Proofs.YtklbmkaomojciaaGreat
