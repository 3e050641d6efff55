/- The walks of the rest of chapter 4: Find, Tag, Has, and the document's answer. -/
import Derived.Test.YtklbmkaomojciaaGreatMem
import Derived.Test.YtklbmkaomojciaaGreatMaps
import Derived.Test.YtklbmkaomojciaaGreatPlains
import Derived.Test.YtklbmkaomojciaaGreatProg
import Derived.WalkLawsBesides
import Derived.WalkSpells
set_option maxRecDepth 100000
set_option maxHeartbeats 1000000
namespace Go.Proofs.YtklbmkaomojciaaGreat
open Go.RowKit
theorem und_int : Tryz.prog.underlying 3 = some (.int .i64) := by kernel_rfl
theorem und_str : Tryz.prog.underlying 9 = some .string := by kernel_rfl
theorem strKey : KeyLaw Tryz.prog 9 kS := keyStr und_str
theorem zKd : KeyLaw Tryz.prog 3 kI := qGs und_int
theorem zKk : (Tryz.prog.info? 3).map (fun i => (i.zero, i.size, i.bytes)) = some (some (.int .i64 0), 1, 8) := by kernel_rfl
theorem qWi : Tryz.prog.underlying 113 = some (.map 9 3) := by kernel_rfl
theorem qKj : Tryz.prog.underlying 104 = some (.map 3 3) := by kernel_rfl
theorem qH1 (a0 a1 a2 a3 a4 a5 a6 : Value) (w : World) : (Instr.field 45 (.agg #[a0, a1, a2, a3, a4, a5, a6]) 0).run Tryz.prog w = .ok a0 w := by kernel_rfl
theorem upd_eq {κ : Type} [DecidableEq κ] {enc : κ -> Value} {m m' : κ -> Option Value} (h : m = m') {w : World} {r : Nat} (hm : qYz enc w r m) : qYz enc w r m' := h ▸ hm
theorem tagE : (upd (upd (upd (upd (upd (upd (upd (upd (upd (upd (upd (upd (fun _ => none) [109, 97, 105, 110] (.int .i64 2)) [110, 97, 118] (.int .i64 3)) [104, 49] (.int .i64 4)) [104, 50] (.int .i64 4)) [104, 51] (.int .i64 4)) [117, 108] (.int .i64 5)) [108, 105] (.int .i64 6)) [98, 117, 116, 116, 111, 110] (.int .i64 8)) [116, 97, 98, 108, 101] (.int .i64 13)) [116, 114] (.int .i64 14)) [116, 100] (.int .i64 15)) [100, 105, 97, 108, 111, 103] (.int .i64 17)) = fun x : Str => (tagM tags x).map (.int .i64) := by
 funext x
 by_cases h0 : x = [109, 97, 105, 110]
 · subst h0; rfl
 by_cases h1 : x = [110, 97, 118]
 · subst h1; rfl
 by_cases h2 : x = [104, 49]
 · subst h2; rfl
 by_cases h3 : x = [104, 50]
 · subst h3; rfl
 by_cases h4 : x = [104, 51]
 · subst h4; rfl
 by_cases h5 : x = [117, 108]
 · subst h5; rfl
 by_cases h6 : x = [108, 105]
 · subst h6; rfl
 by_cases h7 : x = [98, 117, 116, 116, 111, 110]
 · subst h7; rfl
 by_cases h8 : x = [116, 97, 98, 108, 101]
 · subst h8; rfl
 by_cases h9 : x = [116, 114]
 · subst h9; rfl
 by_cases h10 : x = [116, 100]
 · subst h10; rfl
 by_cases h11 : x = [100, 105, 97, 108, 111, 103]
 · subst h11; rfl
 simp only [upd, tagM, tags, h0, h1, h2, h3, h4, h5, h6, h7, h8, h9, h10, h11, if_false, Option.map_none]
theorem zY9 (s : Str) (w : World) :
 Calls Tryz.prog 149 #[.string ⟨s.toArray⟩] w (Rb (.int .i64 (qJo s)) w) := by
 obtain ⟨i0, hi, hz, _, _⟩ := info_parts zKk
 have hmm := @run_makeMap Tryz.prog
 cases ht : tagM tags s
 all_goals
  first | have R := lH (qFu ht) | have R := lH (qFo ht)
  go_enter Tryz.func149, Tryz.ntmps149
  have M0 := lH (qYz.made kS w)
  have B0 := lH ((Below.refl w.heap.size w).alloc (Nat.le_refl _) (.map #[] 0))
  have S0 : w.heap.size <= (w.alloc (.map #[] 0)).heap.size := by simp
  go_wp2_with (first
 | ((with_reducible refine qFs rfl rfl qWi strKey hi hz (m := fun x => (tagM tags x).map (.int .i64)) (r := w.heap.size) ?_ s rfl rfl ?_); exact upd_eq tagE M0.out)
 | (with_reducible refine qDx rfl (.inl rfl) qWi strKey (Hid.out (by assumption)) _ rfl rfl ?_; intro w1 m1 g1 s1; have M1 := lH m1; have B1 := lH ((Hid.out B0).grown g1 S0 (by simp)); clear M0 B0 m1; rw [<- s1] at S0; clear g1 s1; revert M1 B1; intro M0 B0))
  go_ret
  exact ⟨qQh R.out, B0.out⟩
def tagNames : List Str := tags.map (·.1)
def tagRoles : List Int := tags.map (·.2)
theorem zZo (s : Str) (w : World) :
 Calls Tryz.prog 120 #[.string ⟨s.toArray⟩] w (Rb (.int .i64 (qJo s)) w) := by
 have hl : tags.length = 12 := rfl
 go_enter Tryz.func120, Tryz.ntmps120
 go_wp2
 go_loopw [11] (fun i wr => ∃ k : Nat, k <= 12 /\ i = .int .i64 k /\ tagM (tags.take k) s = none /\ qFv (· = w.heap.size) wr (.slice (some ⟨w.heap.size, 0, none⟩) 12 12) tagNames /\ IntsAt (· = w.heap.size + 1) wr (.slice (some ⟨w.heap.size + 1, 0, none⟩) 12 12) tagRoles /\ Below w.heap.size w wr) (fun i _ => 12 - (intOf i).toNat)
 case atStart =>
  refine ⟨0, by omega, rfl, rfl, ?_, ?_, ((Below.refl _ _).alloc (Nat.le_refl _) _).alloc (by simp) _⟩
  · refine qQa.agree (w := w.alloc _) (strs_lit w tagNames 9 12 _ rfl rfl (by decide) _ rfl) (qQt.alloc (fun b hb => by subst hb; simp) _) (fun _ _ _ h => h)
  · exact qQg _ tagRoles 3 12 _ (by simp) rfl (by decide) _ rfl
 case round =>
  obtain ⟨k, hk, rfl, hn, hS, hI, hB⟩ := hrel
  have HN := lH hn
  have HB := lH hB
  have HS := lH hS
  have HI := lH hI
  clear hn hB
  by_cases hlt : k < 12
  · have hkN : k < tagNames.length := hlt
    have hkR : k < tagRoles.length := hlt
    have hc := hS.str_cell k hkN
    have hd := hI.int_cell k hkR
    rw [Nat.zero_add] at hc hd
    clear hS hI
    have hlt' : k < tags.length := hlt
    by_cases hx : tagNames[k]'hkN = s
    · have hb : (tagNames[k]'hkN == s) = true := by simpa using hx
      have hx' : tags[k].1 = s := by simpa [tagNames] using hx
      have hR : Hid (tagRoles[k]'hkR = qJo s) := lH (by rw [<- qFu (tagM_hit hlt' HN.out hx')]; simp [tagRoles])
      clear hx hx'
      generalize tagRoles[k]'hkR = z at *
      generalize tagNames[k]'hkN = y at *
      go_wp2
      go_ret
      exact ⟨qQh hR.out, HB.out⟩
    · have hb : (tagNames[k]'hkN == s) = false := by simpa using hx
      have hx' : tags[k].1 ≠ s := by simpa [tagNames] using hx
      have HN' := lH (qGy hlt' HN.out hx')
      clear hx hx'
      generalize tagRoles[k]'hkR = z at *
      generalize tagNames[k]'hkN = y at *
      go_wp2
      go_roundw
      case rel => exact ⟨k + 1, by omega, by go_num, HN'.out, HS.out, HI.out, HB.out⟩
      case measure => simp [intOf]; omega
  · clear hS hI
    go_wp2
    go_ret
    exact ⟨qQh (qFo (by have := HN.out; rwa [List.take_of_length_le (by omega)] at this)), HB.out⟩
def hasB (l : List Int) (n : Int) : Bool := l.contains n
theorem zYt (B : Nat -> Prop) (v : Value) (l : List Int) (n : Int) (w : World) (hv : IntsAt B w v l) :
 Calls Tryz.prog 42 #[v, .int .i64 n] w (Rv (.bool (hasB l n)) w) := by
 obtain ⟨a, cap, rfl, h1, h2⟩ := hv.form
 have hm : l.length <= 9223372036854775807 := by omega
 go_enter Tryz.func42, Tryz.ntmps42
 go_wp2
 go_loop [9] (fun i => ∃ k : Nat, k <= l.length /\ i = .int .i64 k /\ hasB (l.take k) n = false) (fun i => l.length - (intOf i).toNat)
 case atStart => exact ⟨0, Nat.zero_le _, rfl, by simp [hasB]⟩
 case round =>
  obtain ⟨k, hk, rfl, hn⟩ := hrel
  have HN := lH hn
  clear hn
  by_cases hlt : k < l.length
  · obtain ⟨b, off, cap', cs, e1, _, _, _, _⟩ := hv.elem k hlt
    simp at e1
    obtain ⟨rfl, rfl⟩ := e1
    have hc := hv.int_cell k hlt
    by_cases hx : l[k] = n
    · have hb : (l[k] == n) = true := by simpa using hx
      go_wp2
      go_ret
      exact ⟨qZp (by simp [hasB]; rw [<- hx]; exact List.getElem_mem hlt), rfl⟩
    · have hb : (l[k] == n) = false := by simpa using hx
      go_wp2
      go_round
      case rel => exact ⟨k + 1, by omega, by go_num, by rw [List.take_succ_eq_append_getElem hlt]; have := HN.out; simp only [hasB, List.contains_eq_mem, List.mem_append, List.mem_singleton, decide_eq_false_iff_not] at this ⊢; exact fun h => h.elim this (fun h => hx h.symm)⟩
      case measure => simp [intOf]; omega
  · go_wp2
    go_ret
    exact ⟨qZp (by have := HN.out; rw [List.take_of_length_le (by omega)] at this; exact this.symm), rfl⟩
theorem qQw (b : Bool) (B : Nat -> Prop) (v : Value) (l : List Int) (n : Int) (w : World) (hv : IntsAt B w v l) (hb : hasB l n = b) :
 Calls Tryz.prog 42 #[v, .int .i64 n] w (Rv (.bool b) w) := hb ▸ zYt B v l n w hv
end Go.Proofs.YtklbmkaomojciaaGreat
set_option maxRecDepth 100000
set_option maxHeartbeats 4000000
namespace Go.Proofs.YtklbmkaomojciaaGreat
open Go.RowKit
theorem qJ5 (r : Int) (w : World) :
 Calls Tryz.prog 58 #[.int .i64 r] w (Rb (.agg #[.string ⟨(kOf r).name.toArray⟩, .bool (kOf r).content, .bool (kOf r).leaf, .bool (kOf r).level, .bool (kOf r).checked, .bool (kOf r).named, .int .i64 (kOf r).need]) w) := by
 have hr : (r = 1 ∨ r = 2 ∨ r = 3 ∨ r = 4 ∨ r = 5 ∨ r = 6 ∨ r = 7 ∨ r = 8 ∨ r = 9 ∨ r = 10 ∨ r = 11 ∨ r = 12 ∨ r = 13 ∨ r = 14 ∨ r = 15 ∨ r = 16 ∨ r = 17 ∨ r = 18) ∨ r < 1 ∨ 18 < r := by omega
 rcases hr with (rfl | rfl | rfl | rfl | rfl | rfl | rfl | rfl | rfl | rfl | rfl | rfl | rfl | rfl | rfl | rfl | rfl | rfl) | h | h
 all_goals
  try rw [zW0 (by omega)]
  go_enter Tryz.func58, Tryz.ntmps58
  go_wp2
  refine bodyPost_ret (v := _) (by simp [results, Tryz.results58, go_sem]; decide) rfl ⟨rfl, ?_⟩
  exact (((Below.refl _ _).alloc (Nat.le_refl _) _))
end Go.Proofs.YtklbmkaomojciaaGreat
