/- The walks of the rest of chapter 4: Find, Tag, Has, and the document's answer. -/
import Derived.Test.YtklbmkaomojciaaGreatMem
import Derived.Test.YtklbmkaomojciaaGreatMaps
import Derived.Test.YtklbmkaomojciaaGreatPlains
import Derived.Test.YtklbmkaomojciaaGreatProg
import Derived.WalkLawsBesides
import Derived.WalkSpells
set_option maxRecDepth 100000
set_option maxHeartbeats 1000000
namespace Go.Proofs.YtklbmkaomojciaaGreat
open Go.RowKit
theorem und_str : Tryz.prog.underlying 9 = some .string := by kernel_rfl
theorem strKey : KeyLaw Tryz.prog 9 kS := keyStr und_str
theorem info_int : (Tryz.prog.info? 3).map (fun i => (i.zero, i.size, i.bytes)) = some (some (.int .i64 0), 1, 8) := by kernel_rfl
theorem qVl : Tryz.prog.underlying 113 = some (.map 9 3) := by kernel_rfl
theorem zQj (a0 a1 a2 a3 a4 a5 a6 : Value) (w : World) : (Instr.field 45 (.agg #[a0, a1, a2, a3, a4, a5, a6]) 0).run Tryz.prog w = .ok a0 w := by kernel_rfl
theorem upd_eq {κ : Type} [DecidableEq κ] {enc : κ -> Value} {m m' : κ -> Option Value} (h : m = m') {w : World} {r : Nat} (hm : qKj enc w r m) : qKj enc w r m' := h ▸ hm
theorem tagE : (upd (upd (upd (upd (upd (upd (upd (upd (upd (upd (upd (upd (fun _ => none) [109, 97, 105, 110] (.int .i64 2)) [110, 97, 118] (.int .i64 3)) [104, 49] (.int .i64 4)) [104, 50] (.int .i64 4)) [104, 51] (.int .i64 4)) [117, 108] (.int .i64 5)) [108, 105] (.int .i64 6)) [98, 117, 116, 116, 111, 110] (.int .i64 8)) [116, 97, 98, 108, 101] (.int .i64 13)) [116, 114] (.int .i64 14)) [116, 100] (.int .i64 15)) [100, 105, 97, 108, 111, 103] (.int .i64 17)) = fun x : Str => (tagM tags x).map (.int .i64) := by
 funext x
 by_cases h0 : x = [109, 97, 105, 110]
 · subst h0; rfl
 by_cases h1 : x = [110, 97, 118]
 · subst h1; rfl
 by_cases h2 : x = [104, 49]
 · subst h2; rfl
 by_cases h3 : x = [104, 50]
 · subst h3; rfl
 by_cases h4 : x = [104, 51]
 · subst h4; rfl
 by_cases h5 : x = [117, 108]
 · subst h5; rfl
 by_cases h6 : x = [108, 105]
 · subst h6; rfl
 by_cases h7 : x = [98, 117, 116, 116, 111, 110]
 · subst h7; rfl
 by_cases h8 : x = [116, 97, 98, 108, 101]
 · subst h8; rfl
 by_cases h9 : x = [116, 114]
 · subst h9; rfl
 by_cases h10 : x = [116, 100]
 · subst h10; rfl
 by_cases h11 : x = [100, 105, 97, 108, 111, 103]
 · subst h11; rfl
 simp only [upd, tagM, tags, h0, h1, h2, h3, h4, h5, h6, h7, h8, h9, h10, h11, if_false, Option.map_none]
theorem zX0 (s : Str) (w : World) :
 Calls Tryz.prog 149 #[.string ⟨s.toArray⟩] w (Rb (.int .i64 (qYq s)) w) := by
 obtain ⟨i0, hi, hz, _, _⟩ := info_parts info_int
 have hmm := @run_makeMap Tryz.prog
 cases ht : tagM tags s
 all_goals
  first | have R := lH (zJn ht) | have R := lH (zJ6 ht)
  go_enter Tryz.func149, Tryz.ntmps149
  have M0 := lH (qKj.made kS w)
  have B0 := lH ((Below.refl w.heap.size w).alloc (Nat.le_refl _) (.map #[] 0))
  have S0 : w.heap.size <= (w.alloc (.map #[] 0)).heap.size := by simp
  go_wp2_with (first
 | ((with_reducible refine qGh rfl rfl qVl strKey hi hz (m := fun x => (tagM tags x).map (.int .i64)) (r := w.heap.size) ?_ s rfl rfl ?_); exact upd_eq tagE M0.out)
 | (with_reducible refine qFy rfl (.inl rfl) qVl strKey (Hid.out (by assumption)) _ rfl rfl ?_; intro w1 m1 g1 s1; have M1 := lH m1; have B1 := lH ((Hid.out B0).grown g1 S0 (by simp)); clear M0 B0 m1; rw [<- s1] at S0; clear g1 s1; revert M1 B1; intro M0 B0))
  go_ret
  exact ⟨qQk R.out, B0.out⟩
end Go.Proofs.YtklbmkaomojciaaGreat
set_option maxRecDepth 100000
set_option maxHeartbeats 4000000
namespace Go.Proofs.YtklbmkaomojciaaGreat
open Go.RowKit
theorem qJu (r : Int) (w : World) :
 Calls Tryz.prog 58 #[.int .i64 r] w (Rb (.agg #[.string ⟨(kOf r).name.toArray⟩, .bool (kOf r).content, .bool (kOf r).leaf, .bool (kOf r).level, .bool (kOf r).checked, .bool (kOf r).named, .int .i64 (kOf r).need]) w) := by
 have hr : (r = 1 ∨ r = 2 ∨ r = 3 ∨ r = 4 ∨ r = 5 ∨ r = 6 ∨ r = 7 ∨ r = 8 ∨ r = 9 ∨ r = 10 ∨ r = 11 ∨ r = 12 ∨ r = 13 ∨ r = 14 ∨ r = 15 ∨ r = 16 ∨ r = 17 ∨ r = 18) ∨ r < 1 ∨ 18 < r := by omega
 rcases hr with (rfl | rfl | rfl | rfl | rfl | rfl | rfl | rfl | rfl | rfl | rfl | rfl | rfl | rfl | rfl | rfl | rfl | rfl) | h | h
 all_goals
  try rw [kOf_out (by omega)]
  go_enter Tryz.func58, Tryz.ntmps58
  go_wp2
  refine bodyPost_ret (v := _) (by simp [results, Tryz.results58, go_sem]; decide) rfl ⟨rfl, ?_⟩
  exact (((Below.refl _ _).alloc (Nat.le_refl _) _))
end Go.Proofs.YtklbmkaomojciaaGreat
namespace Go.Proofs.YtklbmkaomojciaaGreat
open Go.RowKit
end Go.Proofs.YtklbmkaomojciaaGreat
