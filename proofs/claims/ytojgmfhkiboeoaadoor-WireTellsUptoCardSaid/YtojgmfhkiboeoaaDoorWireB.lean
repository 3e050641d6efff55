/- wire: numbers and texts as bytes: walked. -/
import Derived.Test.YtojgmfhkiboeoaaDoorWireMath
import Derived.Test.YtojgmfhkiboeoaaDoorDetA
import Derived.Test.YtojgmfhkiboeoaaDoorItemsFn
import Derived.Test.YtojgmfhkiboeoaaDoorShelf
import Derived.Lib.AppendIntMem
import Derived.Lib.AppendStr
namespace Go.Proofs.YtojgmfhkiboeoaaDoor
open Go.RowKit
abbrev Tab (B : Nat) (w : World) : Prop := Lib.TabBelow Tryd.prog B w "internal/strconv.uint64pow10" .u64 Lib.pow10Tab
structure Buf (B : Nat) (w0 w : World) (v : Value) (l : Txt) : Prop where
  own : w.ownsRow B 5 1 v l.length (Lib.byteCells l)
  bel : Below B w0 w
  le : B ≤ w.heap.size
theorem byteInfo : (Tryd.prog.info? 5).map (fun i => (i.zero, i.size, i.bytes)) = some (some (.int .u8 0), 1, 1) := by kernel_rfl
theorem Buf.nil {B : Nat} {w : World} (h : B ≤ w.heap.size) : Buf B w w (.slice none 0 0) [] := ⟨World.ownsRow_nil _ _ _ _, Below.refl _ _, h⟩
theorem Buf.form {B : Nat} {w0 w : World} {v : Value} {l : Txt} (h : Buf B w0 w v l) : ∃ a c, v = .slice a l.length c := by
  rcases h.own.2 with ⟨rfl, h0⟩ | ⟨g, cap, cur, rfl, _⟩
  · exact ⟨none, 0, by rw [h0]⟩
  · exact ⟨_, _, rfl⟩
theorem Buf.from {B : Nat} {w0 w1 w : World} {v : Value} {l : Txt} (h : Buf B w1 w v l) (hb : Below B w0 w1) : Buf B w0 w v l := ⟨h.own, hb.trans h.bel, h.le⟩
theorem byteCells_app (a b : Txt) : Lib.byteCells (a ++ b) = Lib.byteCells a ++ Lib.byteCells b := by simp [Lib.byteCells]
set_option maxRecDepth 100000 in
set_option maxHeartbeats 4000000 in
theorem wireNum_calls {B : Nat} {w0 w : World} {v : Value} {l : Txt} (hb : Buf B w0 w v l) {n : Int} (hn : I64 n) (hl : l.length + 22 ≤ 140737488355328) (hT : Tab B w0) :
    Calls Tryd.prog 18 #[v, .int .i64 n] w fun e w' => ∃ v', e = .returned v' ∧ Buf B w0 w' v' (l ++ numB n) := by
  obtain ⟨i0, hi, hz0, hz1, hz2⟩ := info_parts byteInfo
  have hlen := itoa_len hn
  have c := Tryd.strconv_AppendInt_10 B l.length n hn.1 hn.2 v _ w hb.own hb.le (by omega) (hT.on hb.bel)
  go_enter Tryd.func18, Tryd.ntmps18
  go_wp2_with (go_at_call 29; refine c.mono ?_; rintro e w1 ⟨v1, rfl, hown1, hnx1, -⟩; refine Hid.out ?_)
  refine Lib.hid ?_
  have hs1 := hnx1.size
  have hbl := hb.le
  go_wp2_with (at_builtin; refine wpList_append_own _ rfl _ _ 23 rfl B 5 i0 (.int .u8 0) 1 1 Tryd.underlying23 hi hz0 hz1 hz2 rfl (by decide) _ _ _ rfl (hown1.alloc _) ⟨w1.heap.size, 0, none⟩ 1 1 [Value.int .u8 32] rfl rfl (by intro j u' hj; match j, hj with | 0, hj => simp at hj; subst hj; simp [Addr.add]) (by intro u' hu'; simp at hu'; subst hu'; rfl) (by unfold maxLen; omega) (by omega) (by simp; omega) ?_)
  intro v2 w2 hown2 hgrow _
  have hnx2 : Below B w w2 := (hnx1.alloc (by omega) _).grown hgrow (by simp; omega) (fun k hk => (hown1.lt k hk).1)
  go_wp2
  go_ret
  refine ⟨v2, rfl, ?_, hb.bel.trans hnx2, by have := hnx2.size; omega⟩
  have e1 : Lib.byteCells l ++ (Lib.byteCells (Lib.itoa n) ++ [Value.int .u8 32]) = Lib.byteCells (l ++ numB n) := by simp [Lib.byteCells, numB]
  have e2 : l.length + (Lib.itoa n).length + 1 = (l ++ numB n).length := by simp [numB]; omega
  rw [e1, e2] at hown2
  exact hown2
set_option maxRecDepth 100000 in
set_option maxHeartbeats 4000000 in
theorem wireText_calls {B : Nat} {w0 w : World} {v : Value} {l s : Txt} (hb : Buf B w0 w v l) (hl : l.length + s.length + 22 ≤ 140737488355328) (hT : Tab B w0) :
    Calls Tryd.prog 28 #[v, .string ⟨s.toArray⟩] w fun e w' => ∃ v', e = .returned v' ∧ Buf B w0 w' v' (l ++ txtB s) := by
  obtain ⟨i0, hi, hz0, hz1, hz2⟩ := info_parts byteInfo
  have c := wireNum_calls (n := (s.length : Int)) hb ⟨by omega, by omega⟩ (by omega) hT
  have hlen := itoa_len (n := (s.length : Int)) ⟨by omega, by omega⟩
  have hnl : (numB (s.length : Int)).length ≤ 21 := by simp [numB]; omega
  go_enter Tryd.func28, Tryd.ntmps28
  go_wp2_with (go_at_call 18; refine c.mono ?_; rintro e w1 ⟨v1, rfl, b1⟩; refine Hid.out ?_)
  refine Lib.hid ?_
  go_wp2_with (at_builtin; refine Lib.wpList_append_own_string _ rfl _ _ 23 9 rfl B 5 i0 Tryd.underlying23 Tryd.underlying9 hi hz0 hz1 hz2 _ _ _ rfl b1.own ⟨s.toArray⟩ rfl ?c3 ?c4 b1.le ?_; (case c3 => (simp [ByteArray.size, maxLen]; omega)); (case c4 => (simp [ByteArray.size]; omega)))
  intro v2 w2 hown2 hgrow _
  go_wp2
  go_ret
  refine ⟨v2, rfl, ?_, b1.bel.grown hgrow b1.le (fun k hk => (b1.own.lt k hk).1), Nat.le_trans b1.le hgrow.size⟩
  have e1 : Lib.byteCells (l ++ numB (s.length : Int)) ++ Lib.strCells ⟨s.toArray⟩ = Lib.byteCells (l ++ txtB s) := by rw [Lib.strCells_toArray, ← byteCells_app, txtB, List.append_assoc]
  have e2 : l.length + (numB (s.length : Int)).length + s.length = (l ++ txtB s).length := by simp [txtB]; omega
  rw [e1, e2] at hown2
  exact hown2
end Go.Proofs.YtojgmfhkiboeoaaDoor
