/- How many events of two trees there are; how deep trees stand: plain laws. -/
import Derived.Test.YtklbmkaomojciaaDiffLone
namespace Go.Proofs.Ytklbmkaomojciaa
theorem qJj {t : Fl} {L : List Int} (hw : Wf t) (hf : Fits L t) : ∃ μ, Falls t.kids μ (L.length + 1) := by
 classical
 obtain ⟨μ, N, F⟩ := hw.falls
 refine ⟨fun n => if Has t n then L.countP (fun m => decide (μ m < μ n)) + 1 else 0, fun n k hk => ?_, fun n => ?_⟩
 · have hkh := (hw.has_kid hk).1
   show (if Has t n then _ else _) < (if Has t k then _ else _)
   rw [if_pos hkh]
   split
   · rename_i hn
     have hd := F.down _ _ hk
     have h1 : ∀ l : List Int, l.countP (fun m => decide (μ m < μ n)) <= l.countP (fun m => decide (μ m < μ k)) := fun l => List.countP_mono_left (fun m _ h => by
      simp only [decide_eq_true_eq] at h ⊢
      omega)
     obtain ⟨A, C, e⟩ := List.append_of_mem (hf n hn)
     rw [e, List.countP_append, List.countP_append, List.countP_cons, List.countP_cons]
     have a1 := h1 A
     have a2 := h1 C
     have a3 : decide (μ n < μ n) = false := by simp
     have a4 : decide (μ n < μ k) = true := by simpa using hd
     rw [a3, a4]
     simp
     omega
   · omega
 · show (if Has t n then _ else _) <= _
   split
   · have := List.countP_le_length (p := fun m => decide (μ m < μ n)) (l := L)
     omega
   · omega
theorem qHu (B : Fl) : ∀ (f : Nat) (w : Int) (t : Fl), (qQi B f w t).2.length <= ((B.kids w).flatMap (preF B.kids f)).length := by
 intro f
 induction f with
 | zero => intro w t; exact Nat.zero_le _
 | succ f ih =>
   intro w t
   have main : ∀ (l : List Int) (i : Nat) (t : Fl), (qQ9 (qQi B f) B w i l t).2.length <= (l.flatMap (preF B.kids (f + 1))).length := by
    intro l
    induction l with
    | nil => intro i t; exact Nat.zero_le _
    | cons x l ihl =>
      intro i t
      have h1 := ihl (i + 1) (qQi B f x (qQq B t x w i).1).1
      have h2 := ih x (qQq B t x w i).1
      have h3 : (qQq B t x w i).2.length <= 1 := by
       unfold qQq
       split
       · split <;> simp
       · simp
      show ((qQq B t x w i).2 ++ ((qQi B f x (qQq B t x w i).1).2 ++ (qQ9 (qQi B f) B w (i + 1) l (qQi B f x (qQq B t x w i).1).1).2)).length <= _
      rw [List.flatMap_cons, preF]
      simp only [List.length_append, List.length_cons]
      omega
   exact main _ 0 t
theorem qHf (B : Fl) : ∀ (l : List Int) (t : Fl), (lonesF B l t).2.length <= l.length := by
 intro l
 induction l with
 | nil => intro t; exact Nat.zero_le _
 | cons n l ih =>
   intro t
   unfold lonesF
   split
   · have := ih (dropF t n); simp only [List.length_cons]; omega
   · have := ih t; simp only [List.length_cons]; omega
theorem qH6 (B : Fl) : ∀ (l : List Int) (t : Fl), (dropsF B l t).2.length <= l.length := by
 intro l
 induction l with
 | nil => intro t; exact Nat.zero_le _
 | cons n l ih =>
   intro t
   unfold dropsF
   split
   · have := ih (dropF t n); simp only [List.length_cons]; omega
   · have := ih t; simp only [List.length_cons]; omega
theorem qHg (B : Fl) : ∀ (l : List Int) (t : Fl), (tellsF B l t).2.length <= l.length := by
 intro l
 induction l with
 | nil => intro t; exact Nat.zero_le _
 | cons n l ih =>
   intro t
   unfold tellsF
   split
   · have := ih (qZp t n (B.head n)); simp only [List.length_cons]; omega
   · have := ih t; simp only [List.length_cons]; omega
theorem qVw {t : Fl} {L : List Int} (hw : Wf t) (hf : Fits L t) {μ : Int -> Nat} {N f : Nat} (F : Falls t.kids μ N) (hN : N < f) : (qZv t f).length <= L.length := by
 have e : -1 :: qZv t f = preF t.kids f (-1) := (qY2 F (by omega)).symm
 have hnd : (-1 :: qZv t f).Nodup := e ▸ qXi F hw.alone f (-1) (by omega)
 refine qKo _ _ (List.nodup_cons.1 hnd).2 (fun y hy => hf y ?_)
 obtain ⟨k, hk, h2⟩ := List.mem_flatMap.1 hy
 have hr := (qKr F f k y (by omega)).1 h2
 exact hw.in_has (hw.has_kid hk).1 hr
noncomputable def evsM (a b : List It) : List Evt := (ofF (qQb a) (qQb b) (nodesL a) (nodesL b) ((nodesL a ++ nodesL b).length + 2)).2
end Go.Proofs.Ytklbmkaomojciaa
