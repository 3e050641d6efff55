/-
 DERIVED: THE SHELF's CONTRACTS AT THIS DUMP, IN PLAIN WORDS (tools/lay-plain.mjs out of 'TryShelf.lean', which tools/lay-shelf.mjs wrote): THE SAME DECLARATIONS UNDER THE SAME NAMES: 'import', 'namespace', 'open', 'def', 'theorem' AND NOTHING ELSE: no command of the shelf's: FOR A HAND-IN. Each laying: the table of numbers ('.._ren') and one theorem, a field a fact of the dump's own or the kernel's comparison; each contract: ONE APPLICATION.
-/
import Derived.Test.YtklbmkaomojciaaFlatShown
import Derived.Test.YtklbmkaomojciaaPlains
import Derived.Shelf.Slices.Turned
import Derived.Test.YtklbmkaomojciaaProg
namespace Go.Proofs
open Go.Shelf
def Try.lays108_ren : Go.Shelf.Ren := ⟨fun | 108 => 32 | n => n, fun | 28 => 43 | 3 => 3 | 0 => 0 | 4 => 4 | n => n, fun | n => n⟩
theorem Try.lays108 : Go.Proofs.Lays.n108 Try.prog Try.lays108_ren := {
 mixed := by kernel_rfl
 f108 := Try.func32.trans (congrArg some (by kernel_rfl))
 t0 := Try.underlying0
 a0 := Try.isAgg0
 z0 := Try.sizeOf0
 v0 := Try.zeroValue0
 t3 := Try.underlying3
 a3 := Try.isAgg3
 z3 := Try.sizeOf3
 v3 := Try.zeroValue3
 t4 := Try.underlying4
 a4 := Try.isAgg4
 z4 := Try.sizeOf4
 v4 := Try.zeroValue4
 t28 := Try.underlying43
 a28 := Try.isAgg43
 z28 := Try.sizeOf43
 v28 := Try.zeroValue43 }
open Go.Lib in
/-- slices.Index at []int: "Index returns the index of the first occurrence of v in s, or -1 if not present.": IT RETURNS 'Lib.idxOf (the elements) v'; the world is as it was. 'zs': what the cells behind the slice's address hold (its spare capacity too, if you have it); 'zs.take n': its elements. (LAID: no walk: one application.) -/
theorem Try.slices_Index_int (b off n c : Nat) (zs : List Int) (x : Int) (w : World) (hz : n <= zs.length) (hbig : n <= 9223372036854775807) (hc : ∀ j, j < zs.length -> w.cell? ⟨b, off + j, none⟩ = some (.int .i64 (zs.getD j 0))) :
 Calls Try.prog 32 #[.slice (some ⟨b, off, none⟩) n c, .int .i64 x] w fun e w' => e = .returned (.int .i64 (Lib.idxOf (zs.take n) x)) /\ w' = w := Any.slices_Index_int Try.lays108 b off n c zs x w hz hbig hc
open Go.Lib in
/-- The same at a slice of length 0, a nil one too: no cell is known, none is asked for. (LAID: no walk: one application.) -/
theorem Try.slices_Index_int_empty (a : Option Addr) (c : Nat) (x : Int) (w : World) :
 Calls Try.prog 32 #[.slice a 0 c, .int .i64 x] w fun e w' => e = .returned (.int .i64 (Lib.idxOf [] x)) /\ w' = w := Any.slices_Index_int_empty Try.lays108 a c x w
def Try.lays107_ren : Go.Shelf.Ren := ⟨fun | 107 => 21 | 108 => 32 | n => n, fun | 28 => 43 | 3 => 3 | 4 => 4 | 0 => 0 | n => n, fun | n => n⟩
theorem Try.lays107 : Go.Proofs.Lays.n107 Try.prog Try.lays107_ren := {
 mixed := by kernel_rfl
 f107 := Try.func21.trans (congrArg some (by kernel_rfl))
 f108 := Try.func32.trans (congrArg some (by kernel_rfl))
 t0 := Try.underlying0
 a0 := Try.isAgg0
 z0 := Try.sizeOf0
 v0 := Try.zeroValue0
 t3 := Try.underlying3
 a3 := Try.isAgg3
 z3 := Try.sizeOf3
 v3 := Try.zeroValue3
 t4 := Try.underlying4
 a4 := Try.isAgg4
 z4 := Try.sizeOf4
 v4 := Try.zeroValue4
 t28 := Try.underlying43
 a28 := Try.isAgg43
 z28 := Try.sizeOf43
 v28 := Try.zeroValue43 }
open Go.Lib in
/-- slices.Contains at []int: "Contains reports whether v is present in s.": IT RETURNS 'elements.contains v'; the world is as it was. ITS CALLEE slices.Index IS MET BY ITS OWN CONTRACT OFF THE SHELF (lay that first): no loop is walked here. (LAID: no walk: one application.) -/
theorem Try.slices_Contains_int (b off n c : Nat) (zs : List Int) (x : Int) (w : World) (hz : n <= zs.length) (hbig : n <= 9223372036854775807) (hc : ∀ j, j < zs.length -> w.cell? ⟨b, off + j, none⟩ = some (.int .i64 (zs.getD j 0))) :
 Calls Try.prog 21 #[.slice (some ⟨b, off, none⟩) n c, .int .i64 x] w fun e w' => e = .returned (.bool ((zs.take n).contains x)) /\ w' = w := Any.slices_Contains_int Try.lays107 b off n c zs x w hz hbig hc
open Go.Lib in
/-- The same at a slice of length 0, a nil one too. (LAID: no walk: one application.) -/
theorem Try.slices_Contains_int_empty (a : Option Addr) (c : Nat) (x : Int) (w : World) :
 Calls Try.prog 21 #[.slice a 0 c, .int .i64 x] w fun e w' => e = .returned (.bool false) /\ w' = w := Any.slices_Contains_int_empty Try.lays107 a c x w
end Go.Proofs
set_option maxRecDepth 100000
namespace Go.Proofs.Ytklbmkaomojciaa
open Go.RowKit
def rdClm : World -> List Value -> Clm -> Prop := fun _ cs c => cs = [.int .i64 c.owner, .int .i64 c.kid]
abbrev ClmsAt (n : Nat) (w : World) (v : Value) (l : List Clm) : Prop := qQa 2 rdClm (· < n) w v l
theorem qJ2 (m : Nat) (v : Value) (l : List Int) (x : Int) (w : World) (hv : qXy m w v l) : Calls Try.prog 21 #[v, .int .i64 x] w (Rv (.bool (l.contains x)) w) := by
 rcases qQa.cases hv with ⟨hv0, rfl⟩ | ⟨b, o, c, rfl, h1, h2, h3⟩
 · rcases hv0 with rfl | ⟨b, o, z, rfl⟩
   · exact (Try.slices_Contains_int_empty none 0 x w).mono (fun e w' h => ⟨h.1, h.2.symm⟩)
   · exact (Try.slices_Contains_int_empty (some ⟨b, o, some z⟩) 0 x w).mono (fun e w' h => ⟨h.1, h.2.symm⟩)
 · have hc : ∀ j, j < l.length -> w.cell? ⟨b, o + j, none⟩ = some (.int .i64 (l.getD j 0)) := fun j hj => by
    rw [hv.int_cell j hj]; simp [List.getD, List.getElem?_eq_getElem hj]
   have := Try.slices_Contains_int b o l.length c l x w (Nat.le_refl _) (by omega) hc
   rw [List.take_of_length_le (Nat.le_refl _)] at this
   exact this.mono (fun e w' h => ⟨h.1, h.2.symm⟩)
theorem qVz (m : Nat) (v : Value) (l : List Int) (x : Int) (w : World) (hv : qXy m w v l) : Calls Try.prog 24 #[v, .int .i64 x] w (Rv (.bool (l.contains x)) w) := by
 obtain ⟨a1, cap1, rfl, h1, h2⟩ := qQa.form hv
 have HV := lH hv
 clear hv
 go_enter Try.func24, Try.ntmps24
 go_wp2
 go_loop [9] (fun z => ∃ j : Nat, j <= l.length /\ z = .int .i64 j /\ (l.take j).contains x = false) (fun z => l.length - (intOf z).toNat)
 case atStart => exact ⟨0, by omega, rfl, rfl⟩
 case round =>
  obtain ⟨j, hj, rfl, hF⟩ := hrel
  have HF := lH hF
  clear hF
  by_cases hlt : j < l.length
  · obtain ⟨_, _, _, _, e1, _, _, _, _⟩ := qQa.elem HV.out j hlt
    simp at e1
    obtain ⟨rfl, rfl⟩ := e1
    have c1 := HV.out.int_cell j hlt
    by_cases hx : l[j] = x
    · have hr : l.contains x = true := by rw [<- hx]; simp
      have hb : (l[j] == x) = true := by simpa using hx
      rw [hr]
      generalize l[j] = y at *
      clear hr
      go_wp2
      go_ret
      exact ⟨rfl, rfl⟩
    · have HF2 := lH (qY7 HF.out hlt hx)
      have hb : (l[j] == x) = false := by simpa using hx
      generalize l[j] = y at *
      go_wp2
      go_round
      case rel => exact ⟨j + 1, by omega, by go_num, HF2.out⟩
      case measure => simp [intOf]; omega
  · have HR : Hid (l.contains x = false) := lH (by have := HF.out; rwa [List.take_of_length_le (by omega)] at this)
    go_wp2
    go_ret
    exact ⟨qKg (by simpa using HR.out), rfl⟩
end Go.Proofs.Ytklbmkaomojciaa
