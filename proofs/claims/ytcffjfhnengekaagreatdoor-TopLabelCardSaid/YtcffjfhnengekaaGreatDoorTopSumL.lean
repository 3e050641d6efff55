/- Sums for laws that read events. -/
import Derived.Test.YtcffjfhnengekaaGreatDoorTopSumW
import Derived.Test.YtcffjfhnengekaaGreatDoorLabRdr
namespace Go.Proofs.YtcffjfhnengekaaGreatDoor
open Go.Lab
def okIs (r : Lib.NumEnd Int) (v : Int) : Bool := match r with | .ok x => x == v | _ => false
theorem okIs_ok {r : Lib.NumEnd Int} {v : Int} (h : okIs r v = true) : r = .ok v := by
  unfold okIs at h
  split at h
  · rw [beq_iff_eq.1 h]
  · cases h
theorem atoi_dig : (List.range 100).all (fun k => okIs (Lib.atoiAll (dig k)) (k : Int)) = true := by kernel_rfl
theorem atoiDig_calls (k : Nat) (w : World) (hk : k < 100) : Calls Tryz.prog 37 #[.string ⟨(dig k).toArray⟩] w (Rb (.tuple #[.int .i64 k, .nilIface]) w) := by
  have h := okIs_ok (List.all_eq_true.1 atoi_dig k (by simpa using hk))
  have hz := size_bs (dig k)
  have h2 := dig_few k
  refine (Tryz.strconv_Atoi_ok ⟨(dig k).toArray⟩ (by omega) k (by simpa using h) w).mono ?_
  rintro e w' ⟨rfl, hw⟩
  refine ⟨rfl, ?_⟩
  rcases hw with rfl | ⟨t, rfl⟩
  · exact Go.RowKit.Below.refl _ _
  · exact Lib.bytesWorld_below w 5 t
noncomputable def sumsL : CallF := addSum 24 (rnumS 5) (addSum 40 (rfewS 5) (addSum 39 (rtxtS 5) sumsW))
theorem sumsL_ok {ρ : Nat → List UInt8} (hρ : Words ρ) (hz : ∀ i, wordB (ρ i) = true) : Sums ρ Tryz.prog sumsL := by
  have c1 := rdrNum_calls atoiDig_calls
  have c2 := rdrFew_calls c1
  exact addSum_ok ⟨_, _, Tryz.func24, rfl⟩ (rnumS_ok hρ c1) (addSum_ok ⟨_, _, Tryz.func40, rfl⟩ (rfewS_ok hρ c2)
    (addSum_ok ⟨_, _, Tryz.func39, rfl⟩ (rtxtS_ok hρ (rdrText_calls c2)) (sumsW_ok hρ hz)))
/-- a law's run, of two words -/
theorem toldL_two {f : FuncId} {s t : List UInt8} (hs : wordB s = true) (ht : wordB t = true) (hn : s ≠ t) (h : tells (run Tryz.prog sumsL 1000 60 f [.v (.one (.str [.tx 0])), .v (.one (.str [.tx 1]))] .nil 0) = true) (w : World) :
    Calls Tryz.prog f #[.string ⟨s.toArray⟩, .string ⟨t.toArray⟩] w (Rb (.bool true) w) := by
  refine closed_calls (us := #[.string ⟨s.toArray⟩, .string ⟨t.toArray⟩]) (args := [.v (.one (.str [.tx 0])), .v (.one (.str [.tx 1]))]) (by kernel_rfl) no_count (rho_words hs ht hn) (sumsL_ok (rho_words hs ht hn) (rho_small hs ht)) ⟨?_, ?_, trivial⟩ h w
  · show Value.string ⟨s.toArray⟩ = strV (rho s t 0 ++ [])
    rw [List.append_nil]; rfl
  · show Value.string ⟨t.toArray⟩ = strV (rho s t 1 ++ [])
    rw [List.append_nil]; rfl
end Go.Proofs.YtcffjfhnengekaaGreatDoor
