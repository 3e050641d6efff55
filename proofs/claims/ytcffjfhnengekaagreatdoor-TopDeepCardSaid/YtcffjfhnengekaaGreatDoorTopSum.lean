/- What the whole's laws lean on: sums for the lab; tntop.alive. -/
import Derived.Test.YtcffjfhnengekaaGreatDoorTopFn
import Derived.Test.YtcffjfhnengekaaGreatDoorLabIns
import Derived.Test.YtcffjfhnengekaaGreatDoorIntSort
namespace Go.Proofs.YtcffjfhnengekaaGreatDoor
open Go.Lab
noncomputable def sums : CallF := addSum 96 (textS lowPc) (addSum 49 sortS (addSum 99 (textS sqPc) (addSum 11 tellS (addSum 166 insS noSum))))
theorem toks_eq : ∀ (s : List UInt8) (o : Option (List UInt8)), toksB o s = toksF o s
  | [], none => rfl
  | [], some _ => rfl
  | c :: r, none => by
    rw [toksB, toksF, toks_eq r none, toks_eq r (some [c])]
    rfl
  | c :: r, some w => by
    rw [toksB, toksF, toks_eq r none, toks_eq r (some (w ++ [c]))]
    rfl
theorem join_eq : ∀ l : List (List UInt8), joinB l = join l
  | [] => rfl
  | [_] => rfl
  | w :: v :: r => by rw [joinB, join, join_eq (v :: r)]
theorem squeeze_eq (s : List UInt8) : squeezeB s = squeeze s := by
  unfold squeezeB squeeze toks
  rw [toks_eq, join_eq]
theorem sums_ok {ρ : Nat → List UInt8} (hρ : Words ρ) (hz : ∀ i, wordB (ρ i) = true) : Sums ρ Tryz.prog sums :=
  addSum_ok ⟨_, _, Tryz.func96, rfl⟩ (textS_ok (G := lower) (fun s w hs => (lower_calls s w (by omega)).mono fun _ _ h => h) (fun s t h => lowPc_ok hρ s t h) hρ)
    (addSum_ok ⟨_, _, Tryz.func49, rfl⟩ (sortS_ok fun blk off cap zs w h1 h2 h3 => Tryz.slices_Sort_int blk off cap zs w h1 h2 h3)
      (addSum_ok ⟨_, _, Tryz.func99, rfl⟩ (textS_ok (G := squeeze) (fun s w hs => (squeeze_calls s w (by omega)).mono fun _ _ h => h) (fun s t h => (sqPc_ok hρ s t h).trans (squeeze_eq _)) hρ)
        (addSum_ok ⟨_, _, Tryz.func11, rfl⟩ (tellS_ok (F := wordB) (fun s w hs => (small_calls s w (by omega)).mono fun _ _ h => ⟨h.1, by rw [h.2]; exact Go.RowKit.Below.refl _ _⟩) hz hρ)
          (addSum_ok ⟨_, _, Tryz.func166, rfl⟩ (insS_ok fun g off k q qo cur qc e qe fz qf x0 x1 y0 y1 w h1 h2 h3 h4 h5 h6 h7 h8 h9 h10 h11 h12 h13 => ins01_calls g off k q qo cur qc e qe fz qf x0 x1 y0 y1 w h1 h2 h3 h4 h5 h6 h7 h8 h9 h10 h11 h12 h13) noSum_ok))))
theorem no_count : ∀ (f : Nat) (fn : Func), Tryz.prog.funcs[f]? = some fn → (fn.name == "runtime.NumGoroutine") = false := by
  have h : (Tryz.prog.funcs.toList.all fun fn => !(fn.name == "runtime.NumGoroutine")) = true := by kernel_rfl
  intro f fn hf
  have := List.all_eq_true.1 h fn (Array.mem_toList_iff.2 (Array.mem_of_getElem? hf))
  simpa using this
/-- two words -/
def rho (s t : List UInt8) : Nat → List UInt8 := fun i => if i = 0 then s else t
theorem rho_small {s t : List UInt8} (hs : wordB s = true) (ht : wordB t = true) : ∀ i, wordB (rho s t i) = true := fun i => by
  unfold rho; split <;> assumption
theorem rho_words {s t : List UInt8} (hs : wordB s = true) (ht : wordB t = true) (hn : s ≠ t) : Words (rho s t) := by
  have key : ∀ s : List UInt8, wordB s = true → (∀ b ∈ s, 97 ≤ b.toNat) ∧ s ≠ [] ∧ s.length ≤ 19 := fun s h => by
    unfold wordB at h
    simp only [Bool.and_eq_true, List.all_eq_true, decide_eq_true_eq] at h
    refine ⟨fun b hb => ?_, fun e => ?_, by omega⟩
    · have := h.1 b hb
      unfold letterB at this
      simp only [Bool.and_eq_true, decide_eq_true_eq] at this
      exact this.1
    · rw [e] at h; simp at h
  have h2 := rho_small hs ht
  refine ⟨fun i => (key _ (h2 i)).1, fun i => (key _ (h2 i)).2.1, fun i => (key _ (h2 i)).2.2, fun i j hi hj h => ?_⟩
  have : (i = 0 ∧ j = 1) ∨ (i = 1 ∧ j = 0) := by omega
  rcases this with ⟨rfl, rfl⟩ | ⟨rfl, rfl⟩
  · exact hn
  · exact fun e => hn e.symm
/-- another word -/
def otherW (s : List UInt8) : List UInt8 := if s = [97] then [98] else [97]
theorem other_word (s : List UInt8) : wordB (otherW s) = true ∧ s ≠ otherW s := by
  unfold otherW
  split
  · rename_i h; subst h; exact ⟨by decide, by decide⟩
  · rename_i h; exact ⟨by decide, h⟩
theorem alive_tells : tells (run Tryz.prog sums 1000 60 10 [] .nil 0) = true := by kernel_rfl
theorem topAlive_calls (w : World) : Calls Tryz.prog 10 #[] w (Rb (.bool true) w) :=
  closed_calls (us := #[]) (args := []) (by kernel_rfl) no_count (rho_words (s := [97]) (t := [98]) (by decide) (by decide) (by decide)) (sums_ok (rho_words (s := [97]) (t := [98]) (by decide) (by decide) (by decide)) (rho_small (by decide) (by decide))) (by trivial) alive_tells w
noncomputable def sumsA : CallF := addSum 10 yesS sums
theorem sumsA_ok {ρ : Nat → List UInt8} (hρ : Words ρ) (hz : ∀ i, wordB (ρ i) = true) : Sums ρ Tryz.prog sumsA :=
  addSum_ok ⟨_, _, Tryz.func10, rfl⟩ (yesS_ok fun w => (topAlive_calls w).mono fun _ _ h => h) (sums_ok hρ hz)
/-- a law's run: a number, and a word -/
theorem told_is {f : FuncId} {n : Int} {s : List UInt8} (hs : wordB s = true) (h : tells (run Tryz.prog sumsA 1000 60 f [.v (.one (.int .i64 n)), .v (.one (.str [.tx 0]))] .nil 0) = true) (w : World) :
    Calls Tryz.prog f #[.int .i64 n, .string ⟨s.toArray⟩] w (Rb (.bool true) w) := by
  obtain ⟨h1, h2⟩ := other_word s
  refine closed_calls (us := #[.int .i64 n, .string ⟨s.toArray⟩]) (args := [.v (.one (.int .i64 n)), .v (.one (.str [.tx 0]))]) (by kernel_rfl) no_count (rho_words hs h1 h2) (sumsA_ok (rho_words hs h1 h2) (rho_small hs h1)) ⟨rfl, ?_, trivial⟩ h w
  show Value.string ⟨s.toArray⟩ = strV (rho s (otherW s) 0 ++ [])
  rw [List.append_nil]; rfl
end Go.Proofs.YtcffjfhnengekaaGreatDoor
