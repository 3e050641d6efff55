/- A node's item alone, as a tree: what diff.move looks through for a loop. -/
import Derived.Test.YtklbmkaomojciaaDiffTell
namespace Go.Proofs.Ytklbmkaomojciaa
open Go.RowKit
open Classical in
noncomputable def subF (t : Fl) (x : Int) : Fl :=
 { kids := fun n => if n = -1 then [x] else if Reach t.kids x n then t.kids n else [], par := fun n => if n = x then -1 else t.par n, head := t.head }
section
variable {t : Fl}
theorem qXd (h : Wf t) {x : Int} (hx : Has t x) {μ : Int -> Nat} {N : Nat} (F : Falls t.kids μ N) : Falls (subF t x).kids μ N := by
 refine ⟨fun n k hk => ?_, F.top⟩
 unfold subF at hk
 simp only at hk
 split at hk
 · rename_i e
   rw [List.mem_singleton.1 hk, e]
   have hr := hx.reach h
   cases hr with
   | here => have := hx.ge h; omega
   | @step p _ hp hy =>
     have := Reach.le F hp
     have := F.down _ _ hy
     omega
 · split at hk
   · exact F.down _ _ hk
   · simp at hk
theorem qGl {x n : Int} (h : Wf t) (hx : Has t x) (hr : Reach t.kids x n) : Reach (subF t x).kids (-1) n := by
 induction hr with
 | here => exact .step .here (by unfold subF; simp)
 | @step p y hp hy ih =>
   refine .step ih ?_
   have hp1 : p ≠ -1 := fun e => by
    subst e
    have h1 := (h.anti hp (hx.reach h))
    have := hx.ge h
    omega
   unfold subF
   simp only [if_neg hp1, if_pos hp]
   exact hy
theorem qGg (h : Wf t) {x : Int} (hx : Has t x) : Wf (subF t x) := by
 obtain ⟨μ, N, F⟩ := h.falls
 refine ⟨⟨μ, N, qXd h hx F⟩, ⟨fun n k hk => ?_, fun n => ?_⟩, fun n k hk => ?_, fun n hn => ?_⟩
 · unfold subF at hk ⊢
   simp only at hk ⊢
   split at hk
   · rename_i e
     rw [List.mem_singleton.1 hk, if_pos rfl, e]
   · split at hk
     · rename_i hr
       have hkx : k ≠ x := fun e => by
        subst e
        have := Reach.le F hr
        have := F.down _ _ hk
        omega
       rw [if_neg hkx]
       exact h.alone.par n k hk
     · simp at hk
 · unfold subF
   simp only
   split
   · simp
   · split
     · exact h.alone.once n
     · simp
 · unfold subF at hk
   simp only at hk
   split at hk
   · rw [List.mem_singleton.1 hk]; exact hx.ge h
   · split at hk
     · exact h.pos _ _ hk
     · simp at hk
 · unfold subF at hn
   simp only at hn
   split at hn
   · rename_i e; rw [e]; exact .here
   · split at hn
     · rename_i hr; exact qGl h hx hr
     · exact absurd rfl hn
theorem qWj (h : Wf t) {x n : Int} (hx : Has t x) (hn : Has (subF t x) n) : Reach t.kids x n := by
 have hr := hn.reach (qGg h hx)
 cases hr with
 | here => exact absurd hn (qGg h hx).no_top
 | @step p _ hp hy =>
   unfold subF at hy
   simp only at hy
   split at hy
   · rw [List.mem_singleton.1 hy]; exact .here
   · split at hy
     · rename_i hr; exact .step hr hy
     · simp at hy
theorem Wf.in_has (h : Wf t) {x n : Int} (hx : Has t x) (hr : Reach t.kids x n) : Has t n := by
 by_cases e : n = x
 · rw [e]; exact hx
 · exact (h.reach_up hr e).2
end
theorem sub_rd {B : Nat -> Prop} {w : World} {V : Int -> Value} {t : Fl} (H : qJa B w V t) (hw : Wf t) {x : Int} (hx : Has t x) {v : Value} (hv : qQa 8 (rdF t V) B w v [x]) :
 qJa B w (fun n => if n = -1 then v else V n) (subF t x) := fun n hn => by
 have hcongr : ∀ {u : Value} {l : List Int}, (∀ k ∈ l, k ≠ -1) -> qQa 8 (rdF t V) B w u l -> qQa 8 (rdF (subF t x) (fun n => if n = -1 then v else V n)) B w u l := fun {u l} hl h => by
  refine qQa.conv h rfl (fun i h1 h2 b cs _ hb hr => ⟨hb, ?_⟩)
  unfold rdF at hr ⊢
  rw [hr]
  simp only [if_neg (hl _ (List.getElem_mem h1))]
  rfl
 have hx0 := hx.ge hw
 by_cases e : n = -1
 · subst e
   simp only [if_true]
   have : (subF t x).kids (-1) = [x] := by unfold subF; simp
   rw [this]
   exact hcongr (fun k hk => by rw [List.mem_singleton.1 hk]; omega) hv
 · simp only [if_neg e]
   have hr := qWj hw hx (hn.resolve_left e)
   have : (subF t x).kids n = t.kids n := by unfold subF; simp only [if_neg e, if_pos hr]
   rw [this]
   exact hcongr (fun k hk => by have := hw.pos _ _ hk; omega) (H n (.inr (hw.in_has hx hr)))
end Go.Proofs.Ytklbmkaomojciaa
