/- What tree.Own gives, list by list. -/
import Derived.Test.YtklbmkaomojciaaDiffKeep
namespace Go.Proofs.Ytklbmkaomojciaa
open Go.RowKit
theorem qJo {l : List It} (h : Alike l) : qK5 (qQe l) := fun _ hn => (qK9 h ((qZx h).1 hn)).2
theorem qJd {l : List It} (h : Alike l) {L : List Int} (hL : ∀ m, m ∈ nodesL l -> m ∈ L) : Fits L (qQe l) := fun _ hn => hL _ ((qZx h).1 hn)
theorem qHk {l : List It} (h : Alike l) {y : Hd} (hy : y ∈ headsL l) : qJg l y.node = y := by
 have hn : y.node ∈ nodesL l := by rw [<- qQw.2]; exact List.mem_map_of_mem hy
 obtain ⟨h1, h2⟩ := qK9 h hn
 have hnd : ((headsL l).map (·.node)).Nodup := by rw [qQw.2]; exact h.1
 clear hn
 revert hnd h1 h2 hy
 generalize qJg l y.node = z
 generalize headsL l = R
 intro hy h1 h2 hnd
 induction R with
 | nil => simp at hy
 | cons a R ih =>
   rw [List.map_cons, List.nodup_cons] at hnd
   rcases List.mem_cons.1 hy with e1 | hy2
   · rcases List.mem_cons.1 h1 with e2 | h12
     · rw [e1, e2]
     · refine absurd ?_ hnd.1
       rw [<- e1, <- h2]
       exact List.mem_map_of_mem h12
   · rcases List.mem_cons.1 h1 with e2 | h12
     · refine absurd ?_ hnd.1
       rw [<- e2, h2]
       exact List.mem_map_of_mem hy2
     · exact ih hy2 h12 hnd.2
theorem qBs {base k : Nat} {w : World} {v : Value} {l : List It} {B : List Nat} (hO : OwnT base k w v l B) (h : Alike l) : ∃ S lab, (S (-1)).v = v /\ qQg base w S lab (qQe l) := by
 have hm1 : (-1 : Int) ∉ nodesL l := fun e => by have := h.2 _ e; omega
 obtain ⟨S, lab, h1, h2⟩ := (tab_rows base w (fun n => if n = -1 then { node := -1 } else qJg l n)).1 (.mk { node := -1 } l) k v B hO (by
  rw [nodesI]
  exact List.nodup_cons.2 ⟨hm1, h.1⟩) (fun y hy => by
  rw [headsI] at hy
  rcases List.mem_cons.1 hy with rfl | hy
  · simp
  · have : y.node ∈ nodesL l := by rw [<- qQw.2]; exact List.mem_map_of_mem hy
    have hne : y.node ≠ -1 := fun e => hm1 (e ▸ this)
    simp only [if_neg hne]
    exact qHk h hy)
 refine ⟨S, lab, h1, fun n hn => ?_⟩
 have hr : ∃ r ∈ rowsI (.mk { node := -1 } l), r.1 = n := by
  rcases hn with rfl | hn
  · exact ⟨(-1, l.map (fun x => x.h.node)), by rw [rowsI]; exact List.mem_cons_self, rfl⟩
  · have hk := (qZx h).1 hn
    rw [<- qZd.2] at hk
    obtain ⟨r, hr, e⟩ := List.mem_map.1 hk
    exact ⟨r, by rw [rowsI]; exact List.mem_cons_of_mem _ hr, e⟩
 obtain ⟨r, hr, rfl⟩ := hr
 obtain ⟨q1, q2⟩ := h2 r hr
 have hk : (qQe l).kids r.1 = r.2 := qZl h (by rw [rowsI] at hr; exact hr)
 have hm : ((qQe l).kids r.1).map (icOf (qQe l) S) = r.2.map (fun k => (⟨(if k = -1 then { node := -1 } else qJg l k), (S k).a, (S k).n, (S k).c⟩ : Ic)) := by
  rw [hk]
  refine List.map_congr_left (fun k hkr => ?_)
  have : Has (qQe l) k := ((qZo h).has_kid (n := r.1) (by rw [hk]; exact hkr)).1
  have hne : k ≠ -1 := by have := this.ge (qZo h); omega
  unfold icOf
  simp only [if_neg hne]
  rfl
 rw [hm]
 exact ⟨q1, fun b hb => (q2 b hb).1⟩
end Go.Proofs.Ytklbmkaomojciaa
