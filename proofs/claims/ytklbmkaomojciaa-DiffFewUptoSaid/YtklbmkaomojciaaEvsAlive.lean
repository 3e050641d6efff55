/- Events of the two trees that chapter 9's closed fact takes: two. -/
import Derived.Test.YtklbmkaomojciaaDiffOf
namespace Go.Proofs.Ytklbmkaomojciaa
def aA : List It := [.mk ⟨0, 2, [], [], 0, 0, false⟩ [.mk ⟨1, 8, [], [], 0, 0, false⟩ []]]
def aB : List It := [.mk ⟨0, 2, [], [], 0, 0, false⟩ [.mk ⟨2, 8, [], [], 0, 0, false⟩ [], .mk ⟨1, 8, [120], [], 0, 0, false⟩ []]]
theorem qBw {B : Fl} : ∀ (l : List Int) (t : Fl), (∀ n ∈ l, Has B n) -> lonesF B l t = (t, []) := by
 intro l
 induction l with
 | nil => intro t _; rfl
 | cons n l ih =>
   intro t h
   rw [lonesF, if_neg (fun q => q.2 n .here (h n (by simp)))]
   exact ih t (fun m hm => h m (by simp [hm]))
theorem qB0 {B : Fl} : ∀ (l : List Int) (t : Fl), (∀ n ∈ l, Has B n) -> dropsF B l t = (t, []) := by
 intro l
 induction l with
 | nil => intro t _; rfl
 | cons n l ih =>
   intro t h
   rw [dropsF, if_neg (fun q => q.2 (h n (by simp)))]
   exact ih t (fun m hm => h m (by simp [hm]))
def aMid : Fl := (qQi (qQb aB) 7 (-1) (qQb aA)).1
theorem qW0 : Alike aA := by
 refine ⟨by decide, by decide⟩
theorem qK7 : Alike aB := by
 refine ⟨by decide, by decide⟩
theorem qV9 : (evsM aA aB).length = 2 := by
 have hB : ∀ n ∈ [(0 : Int), 1], Has (qQb aB) n := fun n hn => by
  rw [qQo qK7]
  revert hn
  simp only [List.mem_cons, List.not_mem_nil, or_false]
  rintro (rfl | rfl) <;> decide
 have h1 : lonesF (qQb aB) (nodesL aA) (qQb aA) = (qQb aA, []) := qBw _ _ hB
 have e7 : (nodesL aA ++ nodesL aB).length + 2 = 7 := rfl
 have h2 : (qQi (qQb aB) 7 (-1) (qQb aA)).2.length = 1 := by decide +kernel
 have h3 : qZv aMid 7 = [0, 2, 1] := by decide +kernel
 have h4 : dropsF (qQb aB) (qZv aMid 7) aMid = (aMid, []) := qB0 _ _ (by
  rw [h3]
  intro n hn
  rw [qQo qK7]
  revert hn
  simp only [List.mem_cons, List.not_mem_nil, or_false]
  rintro (rfl | rfl | rfl) <;> decide)
 have h5 : (tellsF (qQb aB) (nodesL aB) aMid).2.length = 1 := by
  have e : nodesL aB = [0, 2, 1] := rfl
  have k0 : aMid.head 0 = (qQb aB).head 0 := rfl
  have k2 : aMid.head 2 = (qQb aB).head 2 := rfl
  have k1 : aMid.head 1 ≠ (qQb aB).head 1 := fun h => by
   have := congrArg Hd.name h
   revert this
   decide
  have kh : Has aMid 1 := by unfold Has; decide
  rw [e, tellsF, if_neg (fun q => q.2 k0), tellsF, if_neg (fun q => q.2 k2), tellsF, if_pos ⟨kh, k1⟩, tellsF]
  rfl
 unfold evsM ofF
 rw [e7, h1]
 simp only
 rw [show (qQi (qQb aB) 7 (-1) (qQb aA)).1 = aMid from rfl, h4]
 simp only [List.length_append, List.length_nil, h2, h5]
end Go.Proofs.Ytklbmkaomojciaa
