/- Sums for laws that tell events. -/
import Derived.Test.YtcffjfhnengekaaGreatDoorTopSum
import Derived.Test.YtcffjfhnengekaaGreatDoorLabNum
namespace Go.Proofs.YtcffjfhnengekaaGreatDoor
open Go.Lab
noncomputable def sumsW : CallF := addSum 57 (numS 5) (addSum 94 (txtS 5) sumsA)
theorem sumsW_ok {ρ : Nat → List UInt8} (hρ : Words ρ) (hz : ∀ i, wordB (ρ i) = true) : Sums ρ Tryz.prog sumsW :=
  addSum_ok ⟨_, _, Tryz.func57, rfl⟩ (numS_ok hρ fun v w l k hv hL hk => wireFew_calls k hk v l w hv (by omega))
    (addSum_ok ⟨_, _, Tryz.func94, rfl⟩ (txtS_ok hρ fun v w l s hv hL hs => wireShort_calls s hs v l w hv (by omega)) (sumsA_ok hρ hz))
/-- a law's run: a number, and a word -/
theorem toldW_is {f : FuncId} {n : Int} {s : List UInt8} (hs : wordB s = true) (h : tells (run Tryz.prog sumsW 1000 60 f [.v (.one (.int .i64 n)), .v (.one (.str [.tx 0]))] .nil 0) = true) (w : World) :
    Calls Tryz.prog f #[.int .i64 n, .string ⟨s.toArray⟩] w (Rb (.bool true) w) := by
  obtain ⟨h1, h2⟩ := other_word s
  refine closed_calls (us := #[.int .i64 n, .string ⟨s.toArray⟩]) (args := [.v (.one (.int .i64 n)), .v (.one (.str [.tx 0]))]) (by kernel_rfl) no_count (rho_words hs h1 h2) (sumsW_ok (rho_words hs h1 h2) (rho_small hs h1)) ⟨rfl, ?_, trivial⟩ h w
  show Value.string ⟨s.toArray⟩ = strV (rho s (otherW s) 0 ++ [])
  rw [List.append_nil]; rfl
/-- the same, of two words -/
theorem toldW_two {f : FuncId} {s t : List UInt8} (hs : wordB s = true) (ht : wordB t = true) (hn : s ≠ t) (h : tells (run Tryz.prog sumsW 1000 60 f [.v (.one (.str [.tx 0])), .v (.one (.str [.tx 1]))] .nil 0) = true) (w : World) :
    Calls Tryz.prog f #[.string ⟨s.toArray⟩, .string ⟨t.toArray⟩] w (Rb (.bool true) w) := by
  refine closed_calls (us := #[.string ⟨s.toArray⟩, .string ⟨t.toArray⟩]) (args := [.v (.one (.str [.tx 0])), .v (.one (.str [.tx 1]))]) (by kernel_rfl) no_count (rho_words hs ht hn) (sumsW_ok (rho_words hs ht hn) (rho_small hs ht)) ⟨?_, ?_, trivial⟩ h w
  · show Value.string ⟨s.toArray⟩ = strV (rho s t 0 ++ [])
    rw [List.append_nil]; rfl
  · show Value.string ⟨t.toArray⟩ = strV (rho s t 1 ++ [])
    rw [List.append_nil]; rfl
/-- the same, of one word twice -/
theorem toldW_same {f : FuncId} {s : List UInt8} (hs : wordB s = true) (h : tells (run Tryz.prog sumsW 1000 60 f [.v (.one (.str [.tx 0])), .v (.one (.str [.tx 0]))] .nil 0) = true) (w : World) :
    Calls Tryz.prog f #[.string ⟨s.toArray⟩, .string ⟨s.toArray⟩] w (Rb (.bool true) w) := by
  obtain ⟨h1, h2⟩ := other_word s
  have he : Value.string ⟨s.toArray⟩ = strV (rho s (otherW s) 0 ++ []) := by rw [List.append_nil]; rfl
  exact closed_calls (us := #[.string ⟨s.toArray⟩, .string ⟨s.toArray⟩]) (args := [.v (.one (.str [.tx 0])), .v (.one (.str [.tx 0]))]) (by kernel_rfl) no_count (rho_words hs h1 h2) (sumsW_ok (rho_words hs h1 h2) (rho_small hs h1)) ⟨he, he, trivial⟩ h w
end Go.Proofs.YtcffjfhnengekaaGreatDoor
