/- The walk of the document's Kind: what a role's kind is. -/
import Derived.Test.YtklbmkaomojciaaGreatMem
import Derived.Test.YtklbmkaomojciaaGreatMaps
import Derived.Test.YtklbmkaomojciaaGreatPlains
import Derived.Test.YtklbmkaomojciaaGreatKindsOf
import Derived.Test.YtklbmkaomojciaaGreatProg
import Derived.WalkLawsBesides
import Derived.WalkSpells
set_option maxRecDepth 100000
set_option maxHeartbeats 1000000
namespace Go.Proofs.YtklbmkaomojciaaGreat
open Go.RowKit
def ent (k v : Int) (b : Nat) : MapEntry := { key := .int .i64 k, val := .int .i64 v, born := b }
theorem qYf (W : World) (g : Nat) (hg : g = W.heap.size) : (Instr.mapUpdate 104 (.map (some g)) (.int .i64 6) (.int .i64 5)).run Tryz.prog (W.alloc (.map #[] 0)) = .ok () (W.alloc (.map #[ent 6 5 0] 1)) :=
 qJ0 qKj zKd #[] 0 [] rfl 6 _ rfl W g hg
theorem qYj (W : World) (g : Nat) (hg : g = W.heap.size) : (Instr.mapUpdate 104 (.map (some g)) (.int .i64 14) (.int .i64 13)).run Tryz.prog (W.alloc (.map #[ent 6 5 0] 1)) = .ok () (W.alloc (.map #[ent 6 5 0, ent 14 13 1] 2)) :=
 qJ0 qKj zKd #[ent 6 5 0] 1 [(6, .int .i64 5)] rfl 14 _ rfl W g hg
theorem qYh (W : World) (g : Nat) (hg : g = W.heap.size) : (Instr.mapUpdate 104 (.map (some g)) (.int .i64 15) (.int .i64 14)).run Tryz.prog (W.alloc (.map #[ent 6 5 0, ent 14 13 1] 2)) = .ok () (W.alloc (.map #[ent 6 5 0, ent 14 13 1, ent 15 14 2] 3)) :=
 qJ0 qKj zKd #[ent 6 5 0, ent 14 13 1] 2 [(6, .int .i64 5), (14, .int .i64 13)] rfl 15 _ rfl W g hg
theorem qYe (k r : Int) (hr : (if k = 6 then 5 else if k = 14 then 13 else if k = 15 then 14 else 0) = r) (W : World) (g : Nat) (hg : g = W.heap.size) : (Instr.lookup 104 (.map (some g)) (.int .i64 k) false).run Tryz.prog (W.alloc (.map #[ent 6 5 0, ent 14 13 1, ent 15 14 2] 3)) = .ok (.int .i64 r) (W.alloc (.map #[ent 6 5 0, ent 14 13 1, ent 15 14 2] 3)) := by
 obtain ⟨i0, hi, hz, _, _⟩ := info_parts zKk
 refine qFd qKj zKd hi hz #[ent 6 5 0, ent 14 13 1, ent 15 14 2] 3 [(6, .int .i64 5), (14, .int .i64 13), (15, .int .i64 14)] rfl k _ ?_ W g hg
 subst hr
 simp only [fnd]
 repeat' split
 all_goals rfl
theorem zVu (w : World) :
 Calls Tryz.prog 25 #[.int .i64 1] w (Rb (.agg #[.string ⟨(kOf 1).name.toArray⟩, .bool (kOf 1).content, .bool (kOf 1).leaf, .bool (kOf 1).level, .bool (kOf 1).checked, .bool (kOf 1).named, .int .i64 (kOf 1).need]) w) := by
 have n1 := qYf
 have n2 := qYj
 have n3 := qYh
 have n4 := qYe 1 0 rfl
 have hmm := @run_makeMap Tryz.prog
 go_enter Tryz.func25, Tryz.ntmps25
 go_wp2_with fail
 (with_reducible refine (qQw false (fun _ => True) _ [6, 10, 18] _ _ ?h1 ?h2).mono ?_)
 case h1 => exact (qQg _ [6, 10, 18] 3 3 _ (by simp) rfl (by decide) _ rfl).mono (fun _ _ => trivial) (fun _ _ _ h => h)
 case h2 => decide
 rintro e w' ⟨rfl, rfl⟩
 go_wp2_with fail
 (with_reducible refine (qQw false (fun _ => True) _ [4, 7, 8, 9, 14, 15] _ _ ?h1 ?h2).mono ?_)
 case h1 => exact (qQg _ [4, 7, 8, 9, 14, 15] 3 6 _ (by simp) rfl (by decide) _ rfl).mono (fun _ _ => trivial) (fun _ _ _ h => h)
 case h2 => decide
 rintro e w' ⟨rfl, rfl⟩
 go_wp2_with fail
 (with_reducible refine (qQw false (fun _ => True) _ [8, 9, 10, 11, 12] _ _ ?h1 ?h2).mono ?_)
 case h1 => exact (qQg _ [8, 9, 10, 11, 12] 3 5 _ (by simp) rfl (by decide) _ rfl).mono (fun _ _ => trivial) (fun _ _ _ h => h)
 case h2 => decide
 rintro e w' ⟨rfl, rfl⟩
 go_wp2
 refine bodyPost_ret (v := _) (by simp [results, Tryz.results25, go_sem]; decide) rfl ⟨rfl, ?_⟩
 repeat (first | exact Below.refl _ _ | refine Below.setCell ?_ (by first | (simp; done) | (simp; omega)) _ | refine Below.alloc ?_ (by first | (simp; done) | (simp; omega)) _)
theorem zW1 (w : World) :
 Calls Tryz.prog 25 #[.int .i64 2] w (Rb (.agg #[.string ⟨(kOf 2).name.toArray⟩, .bool (kOf 2).content, .bool (kOf 2).leaf, .bool (kOf 2).level, .bool (kOf 2).checked, .bool (kOf 2).named, .int .i64 (kOf 2).need]) w) := by
 have n1 := qYf
 have n2 := qYj
 have n3 := qYh
 have n4 := qYe 2 0 rfl
 have hmm := @run_makeMap Tryz.prog
 go_enter Tryz.func25, Tryz.ntmps25
 go_wp2_with fail
 (with_reducible refine (qQw false (fun _ => True) _ [6, 10, 18] _ _ ?h1 ?h2).mono ?_)
 case h1 => exact (qQg _ [6, 10, 18] 3 3 _ (by simp) rfl (by decide) _ rfl).mono (fun _ _ => trivial) (fun _ _ _ h => h)
 case h2 => decide
 rintro e w' ⟨rfl, rfl⟩
 go_wp2_with fail
 (with_reducible refine (qQw false (fun _ => True) _ [4, 7, 8, 9, 14, 15] _ _ ?h1 ?h2).mono ?_)
 case h1 => exact (qQg _ [4, 7, 8, 9, 14, 15] 3 6 _ (by simp) rfl (by decide) _ rfl).mono (fun _ _ => trivial) (fun _ _ _ h => h)
 case h2 => decide
 rintro e w' ⟨rfl, rfl⟩
 go_wp2_with fail
 (with_reducible refine (qQw false (fun _ => True) _ [8, 9, 10, 11, 12] _ _ ?h1 ?h2).mono ?_)
 case h1 => exact (qQg _ [8, 9, 10, 11, 12] 3 5 _ (by simp) rfl (by decide) _ rfl).mono (fun _ _ => trivial) (fun _ _ _ h => h)
 case h2 => decide
 rintro e w' ⟨rfl, rfl⟩
 go_wp2
 refine bodyPost_ret (v := _) (by simp [results, Tryz.results25, go_sem]; decide) rfl ⟨rfl, ?_⟩
 repeat (first | exact Below.refl _ _ | refine Below.setCell ?_ (by first | (simp; done) | (simp; omega)) _ | refine Below.alloc ?_ (by first | (simp; done) | (simp; omega)) _)
theorem zWq (w : World) :
 Calls Tryz.prog 25 #[.int .i64 3] w (Rb (.agg #[.string ⟨(kOf 3).name.toArray⟩, .bool (kOf 3).content, .bool (kOf 3).leaf, .bool (kOf 3).level, .bool (kOf 3).checked, .bool (kOf 3).named, .int .i64 (kOf 3).need]) w) := by
 have n1 := qYf
 have n2 := qYj
 have n3 := qYh
 have n4 := qYe 3 0 rfl
 have hmm := @run_makeMap Tryz.prog
 go_enter Tryz.func25, Tryz.ntmps25
 go_wp2_with fail
 (with_reducible refine (qQw false (fun _ => True) _ [6, 10, 18] _ _ ?h1 ?h2).mono ?_)
 case h1 => exact (qQg _ [6, 10, 18] 3 3 _ (by simp) rfl (by decide) _ rfl).mono (fun _ _ => trivial) (fun _ _ _ h => h)
 case h2 => decide
 rintro e w' ⟨rfl, rfl⟩
 go_wp2_with fail
 (with_reducible refine (qQw false (fun _ => True) _ [4, 7, 8, 9, 14, 15] _ _ ?h1 ?h2).mono ?_)
 case h1 => exact (qQg _ [4, 7, 8, 9, 14, 15] 3 6 _ (by simp) rfl (by decide) _ rfl).mono (fun _ _ => trivial) (fun _ _ _ h => h)
 case h2 => decide
 rintro e w' ⟨rfl, rfl⟩
 go_wp2_with fail
 (with_reducible refine (qQw false (fun _ => True) _ [8, 9, 10, 11, 12] _ _ ?h1 ?h2).mono ?_)
 case h1 => exact (qQg _ [8, 9, 10, 11, 12] 3 5 _ (by simp) rfl (by decide) _ rfl).mono (fun _ _ => trivial) (fun _ _ _ h => h)
 case h2 => decide
 rintro e w' ⟨rfl, rfl⟩
 go_wp2
 refine bodyPost_ret (v := _) (by simp [results, Tryz.results25, go_sem]; decide) rfl ⟨rfl, ?_⟩
 repeat (first | exact Below.refl _ _ | refine Below.setCell ?_ (by first | (simp; done) | (simp; omega)) _ | refine Below.alloc ?_ (by first | (simp; done) | (simp; omega)) _)
theorem zY1 (w : World) :
 Calls Tryz.prog 25 #[.int .i64 4] w (Rb (.agg #[.string ⟨(kOf 4).name.toArray⟩, .bool (kOf 4).content, .bool (kOf 4).leaf, .bool (kOf 4).level, .bool (kOf 4).checked, .bool (kOf 4).named, .int .i64 (kOf 4).need]) w) := by
 have n1 := qYf
 have n2 := qYj
 have n3 := qYh
 have n4 := qYe 4 0 rfl
 have hmm := @run_makeMap Tryz.prog
 go_enter Tryz.func25, Tryz.ntmps25
 go_wp2_with fail
 (with_reducible refine (qQw false (fun _ => True) _ [6, 10, 18] _ _ ?h1 ?h2).mono ?_)
 case h1 => exact (qQg _ [6, 10, 18] 3 3 _ (by simp) rfl (by decide) _ rfl).mono (fun _ _ => trivial) (fun _ _ _ h => h)
 case h2 => decide
 rintro e w' ⟨rfl, rfl⟩
 go_wp2_with fail
 (with_reducible refine (qQw true (fun _ => True) _ [4, 7, 8, 9, 14, 15] _ _ ?h1 ?h2).mono ?_)
 case h1 => exact (qQg _ [4, 7, 8, 9, 14, 15] 3 6 _ (by simp) rfl (by decide) _ rfl).mono (fun _ _ => trivial) (fun _ _ _ h => h)
 case h2 => decide
 rintro e w' ⟨rfl, rfl⟩
 go_wp2_with fail
 (with_reducible refine (qQw false (fun _ => True) _ [8, 9, 10, 11, 12] _ _ ?h1 ?h2).mono ?_)
 case h1 => exact (qQg _ [8, 9, 10, 11, 12] 3 5 _ (by simp) rfl (by decide) _ rfl).mono (fun _ _ => trivial) (fun _ _ _ h => h)
 case h2 => decide
 rintro e w' ⟨rfl, rfl⟩
 go_wp2
 refine bodyPost_ret (v := _) (by simp [results, Tryz.results25, go_sem]; decide) rfl ⟨rfl, ?_⟩
 repeat (first | exact Below.refl _ _ | refine Below.setCell ?_ (by first | (simp; done) | (simp; omega)) _ | refine Below.alloc ?_ (by first | (simp; done) | (simp; omega)) _)
theorem zWf (w : World) :
 Calls Tryz.prog 25 #[.int .i64 5] w (Rb (.agg #[.string ⟨(kOf 5).name.toArray⟩, .bool (kOf 5).content, .bool (kOf 5).leaf, .bool (kOf 5).level, .bool (kOf 5).checked, .bool (kOf 5).named, .int .i64 (kOf 5).need]) w) := by
 have n1 := qYf
 have n2 := qYj
 have n3 := qYh
 have n4 := qYe 5 0 rfl
 have hmm := @run_makeMap Tryz.prog
 go_enter Tryz.func25, Tryz.ntmps25
 go_wp2_with fail
 (with_reducible refine (qQw false (fun _ => True) _ [6, 10, 18] _ _ ?h1 ?h2).mono ?_)
 case h1 => exact (qQg _ [6, 10, 18] 3 3 _ (by simp) rfl (by decide) _ rfl).mono (fun _ _ => trivial) (fun _ _ _ h => h)
 case h2 => decide
 rintro e w' ⟨rfl, rfl⟩
 go_wp2_with fail
 (with_reducible refine (qQw false (fun _ => True) _ [4, 7, 8, 9, 14, 15] _ _ ?h1 ?h2).mono ?_)
 case h1 => exact (qQg _ [4, 7, 8, 9, 14, 15] 3 6 _ (by simp) rfl (by decide) _ rfl).mono (fun _ _ => trivial) (fun _ _ _ h => h)
 case h2 => decide
 rintro e w' ⟨rfl, rfl⟩
 go_wp2_with fail
 (with_reducible refine (qQw false (fun _ => True) _ [8, 9, 10, 11, 12] _ _ ?h1 ?h2).mono ?_)
 case h1 => exact (qQg _ [8, 9, 10, 11, 12] 3 5 _ (by simp) rfl (by decide) _ rfl).mono (fun _ _ => trivial) (fun _ _ _ h => h)
 case h2 => decide
 rintro e w' ⟨rfl, rfl⟩
 go_wp2
 refine bodyPost_ret (v := _) (by simp [results, Tryz.results25, go_sem]; decide) rfl ⟨rfl, ?_⟩
 repeat (first | exact Below.refl _ _ | refine Below.setCell ?_ (by first | (simp; done) | (simp; omega)) _ | refine Below.alloc ?_ (by first | (simp; done) | (simp; omega)) _)
theorem zYv (w : World) :
 Calls Tryz.prog 25 #[.int .i64 6] w (Rb (.agg #[.string ⟨(kOf 6).name.toArray⟩, .bool (kOf 6).content, .bool (kOf 6).leaf, .bool (kOf 6).level, .bool (kOf 6).checked, .bool (kOf 6).named, .int .i64 (kOf 6).need]) w) := by
 have n1 := qYf
 have n2 := qYj
 have n3 := qYh
 have n4 := qYe 6 5 rfl
 have hmm := @run_makeMap Tryz.prog
 go_enter Tryz.func25, Tryz.ntmps25
 go_wp2_with fail
 (with_reducible refine (qQw true (fun _ => True) _ [6, 10, 18] _ _ ?h1 ?h2).mono ?_)
 case h1 => exact (qQg _ [6, 10, 18] 3 3 _ (by simp) rfl (by decide) _ rfl).mono (fun _ _ => trivial) (fun _ _ _ h => h)
 case h2 => decide
 rintro e w' ⟨rfl, rfl⟩
 go_wp2_with fail
 (with_reducible refine (qQw false (fun _ => True) _ [4, 7, 8, 9, 14, 15] _ _ ?h1 ?h2).mono ?_)
 case h1 => exact (qQg _ [4, 7, 8, 9, 14, 15] 3 6 _ (by simp) rfl (by decide) _ rfl).mono (fun _ _ => trivial) (fun _ _ _ h => h)
 case h2 => decide
 rintro e w' ⟨rfl, rfl⟩
 go_wp2_with fail
 (with_reducible refine (qQw false (fun _ => True) _ [8, 9, 10, 11, 12] _ _ ?h1 ?h2).mono ?_)
 case h1 => exact (qQg _ [8, 9, 10, 11, 12] 3 5 _ (by simp) rfl (by decide) _ rfl).mono (fun _ _ => trivial) (fun _ _ _ h => h)
 case h2 => decide
 rintro e w' ⟨rfl, rfl⟩
 go_wp2
 refine bodyPost_ret (v := _) (by simp [results, Tryz.results25, go_sem]; decide) rfl ⟨rfl, ?_⟩
 repeat (first | exact Below.refl _ _ | refine Below.setCell ?_ (by first | (simp; done) | (simp; omega)) _ | refine Below.alloc ?_ (by first | (simp; done) | (simp; omega)) _)
theorem zWo (w : World) :
 Calls Tryz.prog 25 #[.int .i64 7] w (Rb (.agg #[.string ⟨(kOf 7).name.toArray⟩, .bool (kOf 7).content, .bool (kOf 7).leaf, .bool (kOf 7).level, .bool (kOf 7).checked, .bool (kOf 7).named, .int .i64 (kOf 7).need]) w) := by
 have n1 := qYf
 have n2 := qYj
 have n3 := qYh
 have n4 := qYe 7 0 rfl
 have hmm := @run_makeMap Tryz.prog
 go_enter Tryz.func25, Tryz.ntmps25
 go_wp2_with fail
 (with_reducible refine (qQw false (fun _ => True) _ [6, 10, 18] _ _ ?h1 ?h2).mono ?_)
 case h1 => exact (qQg _ [6, 10, 18] 3 3 _ (by simp) rfl (by decide) _ rfl).mono (fun _ _ => trivial) (fun _ _ _ h => h)
 case h2 => decide
 rintro e w' ⟨rfl, rfl⟩
 go_wp2_with fail
 (with_reducible refine (qQw true (fun _ => True) _ [4, 7, 8, 9, 14, 15] _ _ ?h1 ?h2).mono ?_)
 case h1 => exact (qQg _ [4, 7, 8, 9, 14, 15] 3 6 _ (by simp) rfl (by decide) _ rfl).mono (fun _ _ => trivial) (fun _ _ _ h => h)
 case h2 => decide
 rintro e w' ⟨rfl, rfl⟩
 go_wp2_with fail
 (with_reducible refine (qQw false (fun _ => True) _ [8, 9, 10, 11, 12] _ _ ?h1 ?h2).mono ?_)
 case h1 => exact (qQg _ [8, 9, 10, 11, 12] 3 5 _ (by simp) rfl (by decide) _ rfl).mono (fun _ _ => trivial) (fun _ _ _ h => h)
 case h2 => decide
 rintro e w' ⟨rfl, rfl⟩
 go_wp2
 refine bodyPost_ret (v := _) (by simp [results, Tryz.results25, go_sem]; decide) rfl ⟨rfl, ?_⟩
 repeat (first | exact Below.refl _ _ | refine Below.setCell ?_ (by first | (simp; done) | (simp; omega)) _ | refine Below.alloc ?_ (by first | (simp; done) | (simp; omega)) _)
theorem zWi (w : World) :
 Calls Tryz.prog 25 #[.int .i64 8] w (Rb (.agg #[.string ⟨(kOf 8).name.toArray⟩, .bool (kOf 8).content, .bool (kOf 8).leaf, .bool (kOf 8).level, .bool (kOf 8).checked, .bool (kOf 8).named, .int .i64 (kOf 8).need]) w) := by
 have n1 := qYf
 have n2 := qYj
 have n3 := qYh
 have n4 := qYe 8 0 rfl
 have hmm := @run_makeMap Tryz.prog
 go_enter Tryz.func25, Tryz.ntmps25
 go_wp2_with fail
 (with_reducible refine (qQw false (fun _ => True) _ [6, 10, 18] _ _ ?h1 ?h2).mono ?_)
 case h1 => exact (qQg _ [6, 10, 18] 3 3 _ (by simp) rfl (by decide) _ rfl).mono (fun _ _ => trivial) (fun _ _ _ h => h)
 case h2 => decide
 rintro e w' ⟨rfl, rfl⟩
 go_wp2_with fail
 (with_reducible refine (qQw true (fun _ => True) _ [4, 7, 8, 9, 14, 15] _ _ ?h1 ?h2).mono ?_)
 case h1 => exact (qQg _ [4, 7, 8, 9, 14, 15] 3 6 _ (by simp) rfl (by decide) _ rfl).mono (fun _ _ => trivial) (fun _ _ _ h => h)
 case h2 => decide
 rintro e w' ⟨rfl, rfl⟩
 go_wp2_with fail
 (with_reducible refine (qQw true (fun _ => True) _ [8, 9, 10, 11, 12] _ _ ?h1 ?h2).mono ?_)
 case h1 => exact (qQg _ [8, 9, 10, 11, 12] 3 5 _ (by simp) rfl (by decide) _ rfl).mono (fun _ _ => trivial) (fun _ _ _ h => h)
 case h2 => decide
 rintro e w' ⟨rfl, rfl⟩
 go_wp2
 refine bodyPost_ret (v := _) (by simp [results, Tryz.results25, go_sem]; decide) rfl ⟨rfl, ?_⟩
 repeat (first | exact Below.refl _ _ | refine Below.setCell ?_ (by first | (simp; done) | (simp; omega)) _ | refine Below.alloc ?_ (by first | (simp; done) | (simp; omega)) _)
theorem zWx (w : World) :
 Calls Tryz.prog 25 #[.int .i64 9] w (Rb (.agg #[.string ⟨(kOf 9).name.toArray⟩, .bool (kOf 9).content, .bool (kOf 9).leaf, .bool (kOf 9).level, .bool (kOf 9).checked, .bool (kOf 9).named, .int .i64 (kOf 9).need]) w) := by
 have n1 := qYf
 have n2 := qYj
 have n3 := qYh
 have n4 := qYe 9 0 rfl
 have hmm := @run_makeMap Tryz.prog
 go_enter Tryz.func25, Tryz.ntmps25
 go_wp2_with fail
 (with_reducible refine (qQw false (fun _ => True) _ [6, 10, 18] _ _ ?h1 ?h2).mono ?_)
 case h1 => exact (qQg _ [6, 10, 18] 3 3 _ (by simp) rfl (by decide) _ rfl).mono (fun _ _ => trivial) (fun _ _ _ h => h)
 case h2 => decide
 rintro e w' ⟨rfl, rfl⟩
 go_wp2_with fail
 (with_reducible refine (qQw true (fun _ => True) _ [4, 7, 8, 9, 14, 15] _ _ ?h1 ?h2).mono ?_)
 case h1 => exact (qQg _ [4, 7, 8, 9, 14, 15] 3 6 _ (by simp) rfl (by decide) _ rfl).mono (fun _ _ => trivial) (fun _ _ _ h => h)
 case h2 => decide
 rintro e w' ⟨rfl, rfl⟩
 go_wp2_with fail
 (with_reducible refine (qQw true (fun _ => True) _ [8, 9, 10, 11, 12] _ _ ?h1 ?h2).mono ?_)
 case h1 => exact (qQg _ [8, 9, 10, 11, 12] 3 5 _ (by simp) rfl (by decide) _ rfl).mono (fun _ _ => trivial) (fun _ _ _ h => h)
 case h2 => decide
 rintro e w' ⟨rfl, rfl⟩
 go_wp2
 refine bodyPost_ret (v := _) (by simp [results, Tryz.results25, go_sem]; decide) rfl ⟨rfl, ?_⟩
 repeat (first | exact Below.refl _ _ | refine Below.setCell ?_ (by first | (simp; done) | (simp; omega)) _ | refine Below.alloc ?_ (by first | (simp; done) | (simp; omega)) _)
theorem zYf (w : World) :
 Calls Tryz.prog 25 #[.int .i64 10] w (Rb (.agg #[.string ⟨(kOf 10).name.toArray⟩, .bool (kOf 10).content, .bool (kOf 10).leaf, .bool (kOf 10).level, .bool (kOf 10).checked, .bool (kOf 10).named, .int .i64 (kOf 10).need]) w) := by
 have n1 := qYf
 have n2 := qYj
 have n3 := qYh
 have n4 := qYe 10 0 rfl
 have hmm := @run_makeMap Tryz.prog
 go_enter Tryz.func25, Tryz.ntmps25
 go_wp2_with fail
 (with_reducible refine (qQw true (fun _ => True) _ [6, 10, 18] _ _ ?h1 ?h2).mono ?_)
 case h1 => exact (qQg _ [6, 10, 18] 3 3 _ (by simp) rfl (by decide) _ rfl).mono (fun _ _ => trivial) (fun _ _ _ h => h)
 case h2 => decide
 rintro e w' ⟨rfl, rfl⟩
 go_wp2_with fail
 (with_reducible refine (qQw false (fun _ => True) _ [4, 7, 8, 9, 14, 15] _ _ ?h1 ?h2).mono ?_)
 case h1 => exact (qQg _ [4, 7, 8, 9, 14, 15] 3 6 _ (by simp) rfl (by decide) _ rfl).mono (fun _ _ => trivial) (fun _ _ _ h => h)
 case h2 => decide
 rintro e w' ⟨rfl, rfl⟩
 go_wp2_with fail
 (with_reducible refine (qQw true (fun _ => True) _ [8, 9, 10, 11, 12] _ _ ?h1 ?h2).mono ?_)
 case h1 => exact (qQg _ [8, 9, 10, 11, 12] 3 5 _ (by simp) rfl (by decide) _ rfl).mono (fun _ _ => trivial) (fun _ _ _ h => h)
 case h2 => decide
 rintro e w' ⟨rfl, rfl⟩
 go_wp2
 refine bodyPost_ret (v := _) (by simp [results, Tryz.results25, go_sem]; decide) rfl ⟨rfl, ?_⟩
 repeat (first | exact Below.refl _ _ | refine Below.setCell ?_ (by first | (simp; done) | (simp; omega)) _ | refine Below.alloc ?_ (by first | (simp; done) | (simp; omega)) _)
theorem zXb (w : World) :
 Calls Tryz.prog 25 #[.int .i64 11] w (Rb (.agg #[.string ⟨(kOf 11).name.toArray⟩, .bool (kOf 11).content, .bool (kOf 11).leaf, .bool (kOf 11).level, .bool (kOf 11).checked, .bool (kOf 11).named, .int .i64 (kOf 11).need]) w) := by
 have n1 := qYf
 have n2 := qYj
 have n3 := qYh
 have n4 := qYe 11 0 rfl
 have hmm := @run_makeMap Tryz.prog
 go_enter Tryz.func25, Tryz.ntmps25
 go_wp2_with fail
 (with_reducible refine (qQw false (fun _ => True) _ [6, 10, 18] _ _ ?h1 ?h2).mono ?_)
 case h1 => exact (qQg _ [6, 10, 18] 3 3 _ (by simp) rfl (by decide) _ rfl).mono (fun _ _ => trivial) (fun _ _ _ h => h)
 case h2 => decide
 rintro e w' ⟨rfl, rfl⟩
 go_wp2_with fail
 (with_reducible refine (qQw false (fun _ => True) _ [4, 7, 8, 9, 14, 15] _ _ ?h1 ?h2).mono ?_)
 case h1 => exact (qQg _ [4, 7, 8, 9, 14, 15] 3 6 _ (by simp) rfl (by decide) _ rfl).mono (fun _ _ => trivial) (fun _ _ _ h => h)
 case h2 => decide
 rintro e w' ⟨rfl, rfl⟩
 go_wp2_with fail
 (with_reducible refine (qQw true (fun _ => True) _ [8, 9, 10, 11, 12] _ _ ?h1 ?h2).mono ?_)
 case h1 => exact (qQg _ [8, 9, 10, 11, 12] 3 5 _ (by simp) rfl (by decide) _ rfl).mono (fun _ _ => trivial) (fun _ _ _ h => h)
 case h2 => decide
 rintro e w' ⟨rfl, rfl⟩
 go_wp2
 refine bodyPost_ret (v := _) (by simp [results, Tryz.results25, go_sem]; decide) rfl ⟨rfl, ?_⟩
 repeat (first | exact Below.refl _ _ | refine Below.setCell ?_ (by first | (simp; done) | (simp; omega)) _ | refine Below.alloc ?_ (by first | (simp; done) | (simp; omega)) _)
theorem zXs (w : World) :
 Calls Tryz.prog 25 #[.int .i64 12] w (Rb (.agg #[.string ⟨(kOf 12).name.toArray⟩, .bool (kOf 12).content, .bool (kOf 12).leaf, .bool (kOf 12).level, .bool (kOf 12).checked, .bool (kOf 12).named, .int .i64 (kOf 12).need]) w) := by
 have n1 := qYf
 have n2 := qYj
 have n3 := qYh
 have n4 := qYe 12 0 rfl
 have hmm := @run_makeMap Tryz.prog
 go_enter Tryz.func25, Tryz.ntmps25
 go_wp2_with fail
 (with_reducible refine (qQw false (fun _ => True) _ [6, 10, 18] _ _ ?h1 ?h2).mono ?_)
 case h1 => exact (qQg _ [6, 10, 18] 3 3 _ (by simp) rfl (by decide) _ rfl).mono (fun _ _ => trivial) (fun _ _ _ h => h)
 case h2 => decide
 rintro e w' ⟨rfl, rfl⟩
 go_wp2_with fail
 (with_reducible refine (qQw false (fun _ => True) _ [4, 7, 8, 9, 14, 15] _ _ ?h1 ?h2).mono ?_)
 case h1 => exact (qQg _ [4, 7, 8, 9, 14, 15] 3 6 _ (by simp) rfl (by decide) _ rfl).mono (fun _ _ => trivial) (fun _ _ _ h => h)
 case h2 => decide
 rintro e w' ⟨rfl, rfl⟩
 go_wp2_with fail
 (with_reducible refine (qQw true (fun _ => True) _ [8, 9, 10, 11, 12] _ _ ?h1 ?h2).mono ?_)
 case h1 => exact (qQg _ [8, 9, 10, 11, 12] 3 5 _ (by simp) rfl (by decide) _ rfl).mono (fun _ _ => trivial) (fun _ _ _ h => h)
 case h2 => decide
 rintro e w' ⟨rfl, rfl⟩
 go_wp2
 refine bodyPost_ret (v := _) (by simp [results, Tryz.results25, go_sem]; decide) rfl ⟨rfl, ?_⟩
 repeat (first | exact Below.refl _ _ | refine Below.setCell ?_ (by first | (simp; done) | (simp; omega)) _ | refine Below.alloc ?_ (by first | (simp; done) | (simp; omega)) _)
theorem zK8 (w : World) :
 Calls Tryz.prog 25 #[.int .i64 13] w (Rb (.agg #[.string ⟨(kOf 13).name.toArray⟩, .bool (kOf 13).content, .bool (kOf 13).leaf, .bool (kOf 13).level, .bool (kOf 13).checked, .bool (kOf 13).named, .int .i64 (kOf 13).need]) w) := by
 have n1 := qYf
 have n2 := qYj
 have n3 := qYh
 have n4 := qYe 13 0 rfl
 have hmm := @run_makeMap Tryz.prog
 go_enter Tryz.func25, Tryz.ntmps25
 go_wp2_with fail
 (with_reducible refine (qQw false (fun _ => True) _ [6, 10, 18] _ _ ?h1 ?h2).mono ?_)
 case h1 => exact (qQg _ [6, 10, 18] 3 3 _ (by simp) rfl (by decide) _ rfl).mono (fun _ _ => trivial) (fun _ _ _ h => h)
 case h2 => decide
 rintro e w' ⟨rfl, rfl⟩
 go_wp2_with fail
 (with_reducible refine (qQw false (fun _ => True) _ [4, 7, 8, 9, 14, 15] _ _ ?h1 ?h2).mono ?_)
 case h1 => exact (qQg _ [4, 7, 8, 9, 14, 15] 3 6 _ (by simp) rfl (by decide) _ rfl).mono (fun _ _ => trivial) (fun _ _ _ h => h)
 case h2 => decide
 rintro e w' ⟨rfl, rfl⟩
 go_wp2_with fail
 (with_reducible refine (qQw false (fun _ => True) _ [8, 9, 10, 11, 12] _ _ ?h1 ?h2).mono ?_)
 case h1 => exact (qQg _ [8, 9, 10, 11, 12] 3 5 _ (by simp) rfl (by decide) _ rfl).mono (fun _ _ => trivial) (fun _ _ _ h => h)
 case h2 => decide
 rintro e w' ⟨rfl, rfl⟩
 go_wp2
 refine bodyPost_ret (v := _) (by simp [results, Tryz.results25, go_sem]; decide) rfl ⟨rfl, ?_⟩
 repeat (first | exact Below.refl _ _ | refine Below.setCell ?_ (by first | (simp; done) | (simp; omega)) _ | refine Below.alloc ?_ (by first | (simp; done) | (simp; omega)) _)
theorem zXp (w : World) :
 Calls Tryz.prog 25 #[.int .i64 14] w (Rb (.agg #[.string ⟨(kOf 14).name.toArray⟩, .bool (kOf 14).content, .bool (kOf 14).leaf, .bool (kOf 14).level, .bool (kOf 14).checked, .bool (kOf 14).named, .int .i64 (kOf 14).need]) w) := by
 have n1 := qYf
 have n2 := qYj
 have n3 := qYh
 have n4 := qYe 14 13 rfl
 have hmm := @run_makeMap Tryz.prog
 go_enter Tryz.func25, Tryz.ntmps25
 go_wp2_with fail
 (with_reducible refine (qQw false (fun _ => True) _ [6, 10, 18] _ _ ?h1 ?h2).mono ?_)
 case h1 => exact (qQg _ [6, 10, 18] 3 3 _ (by simp) rfl (by decide) _ rfl).mono (fun _ _ => trivial) (fun _ _ _ h => h)
 case h2 => decide
 rintro e w' ⟨rfl, rfl⟩
 go_wp2_with fail
 (with_reducible refine (qQw true (fun _ => True) _ [4, 7, 8, 9, 14, 15] _ _ ?h1 ?h2).mono ?_)
 case h1 => exact (qQg _ [4, 7, 8, 9, 14, 15] 3 6 _ (by simp) rfl (by decide) _ rfl).mono (fun _ _ => trivial) (fun _ _ _ h => h)
 case h2 => decide
 rintro e w' ⟨rfl, rfl⟩
 go_wp2_with fail
 (with_reducible refine (qQw false (fun _ => True) _ [8, 9, 10, 11, 12] _ _ ?h1 ?h2).mono ?_)
 case h1 => exact (qQg _ [8, 9, 10, 11, 12] 3 5 _ (by simp) rfl (by decide) _ rfl).mono (fun _ _ => trivial) (fun _ _ _ h => h)
 case h2 => decide
 rintro e w' ⟨rfl, rfl⟩
 go_wp2
 refine bodyPost_ret (v := _) (by simp [results, Tryz.results25, go_sem]; decide) rfl ⟨rfl, ?_⟩
 repeat (first | exact Below.refl _ _ | refine Below.setCell ?_ (by first | (simp; done) | (simp; omega)) _ | refine Below.alloc ?_ (by first | (simp; done) | (simp; omega)) _)
theorem zYb (w : World) :
 Calls Tryz.prog 25 #[.int .i64 15] w (Rb (.agg #[.string ⟨(kOf 15).name.toArray⟩, .bool (kOf 15).content, .bool (kOf 15).leaf, .bool (kOf 15).level, .bool (kOf 15).checked, .bool (kOf 15).named, .int .i64 (kOf 15).need]) w) := by
 have n1 := qYf
 have n2 := qYj
 have n3 := qYh
 have n4 := qYe 15 14 rfl
 have hmm := @run_makeMap Tryz.prog
 go_enter Tryz.func25, Tryz.ntmps25
 go_wp2_with fail
 (with_reducible refine (qQw false (fun _ => True) _ [6, 10, 18] _ _ ?h1 ?h2).mono ?_)
 case h1 => exact (qQg _ [6, 10, 18] 3 3 _ (by simp) rfl (by decide) _ rfl).mono (fun _ _ => trivial) (fun _ _ _ h => h)
 case h2 => decide
 rintro e w' ⟨rfl, rfl⟩
 go_wp2_with fail
 (with_reducible refine (qQw true (fun _ => True) _ [4, 7, 8, 9, 14, 15] _ _ ?h1 ?h2).mono ?_)
 case h1 => exact (qQg _ [4, 7, 8, 9, 14, 15] 3 6 _ (by simp) rfl (by decide) _ rfl).mono (fun _ _ => trivial) (fun _ _ _ h => h)
 case h2 => decide
 rintro e w' ⟨rfl, rfl⟩
 go_wp2_with fail
 (with_reducible refine (qQw false (fun _ => True) _ [8, 9, 10, 11, 12] _ _ ?h1 ?h2).mono ?_)
 case h1 => exact (qQg _ [8, 9, 10, 11, 12] 3 5 _ (by simp) rfl (by decide) _ rfl).mono (fun _ _ => trivial) (fun _ _ _ h => h)
 case h2 => decide
 rintro e w' ⟨rfl, rfl⟩
 go_wp2
 refine bodyPost_ret (v := _) (by simp [results, Tryz.results25, go_sem]; decide) rfl ⟨rfl, ?_⟩
 repeat (first | exact Below.refl _ _ | refine Below.setCell ?_ (by first | (simp; done) | (simp; omega)) _ | refine Below.alloc ?_ (by first | (simp; done) | (simp; omega)) _)
theorem zXv (w : World) :
 Calls Tryz.prog 25 #[.int .i64 16] w (Rb (.agg #[.string ⟨(kOf 16).name.toArray⟩, .bool (kOf 16).content, .bool (kOf 16).leaf, .bool (kOf 16).level, .bool (kOf 16).checked, .bool (kOf 16).named, .int .i64 (kOf 16).need]) w) := by
 have n1 := qYf
 have n2 := qYj
 have n3 := qYh
 have n4 := qYe 16 0 rfl
 have hmm := @run_makeMap Tryz.prog
 go_enter Tryz.func25, Tryz.ntmps25
 go_wp2_with fail
 (with_reducible refine (qQw false (fun _ => True) _ [6, 10, 18] _ _ ?h1 ?h2).mono ?_)
 case h1 => exact (qQg _ [6, 10, 18] 3 3 _ (by simp) rfl (by decide) _ rfl).mono (fun _ _ => trivial) (fun _ _ _ h => h)
 case h2 => decide
 rintro e w' ⟨rfl, rfl⟩
 go_wp2_with fail
 (with_reducible refine (qQw false (fun _ => True) _ [4, 7, 8, 9, 14, 15] _ _ ?h1 ?h2).mono ?_)
 case h1 => exact (qQg _ [4, 7, 8, 9, 14, 15] 3 6 _ (by simp) rfl (by decide) _ rfl).mono (fun _ _ => trivial) (fun _ _ _ h => h)
 case h2 => decide
 rintro e w' ⟨rfl, rfl⟩
 go_wp2_with fail
 (with_reducible refine (qQw false (fun _ => True) _ [8, 9, 10, 11, 12] _ _ ?h1 ?h2).mono ?_)
 case h1 => exact (qQg _ [8, 9, 10, 11, 12] 3 5 _ (by simp) rfl (by decide) _ rfl).mono (fun _ _ => trivial) (fun _ _ _ h => h)
 case h2 => decide
 rintro e w' ⟨rfl, rfl⟩
 go_wp2
 refine bodyPost_ret (v := _) (by simp [results, Tryz.results25, go_sem]; decide) rfl ⟨rfl, ?_⟩
 repeat (first | exact Below.refl _ _ | refine Below.setCell ?_ (by first | (simp; done) | (simp; omega)) _ | refine Below.alloc ?_ (by first | (simp; done) | (simp; omega)) _)
theorem zK1 (w : World) :
 Calls Tryz.prog 25 #[.int .i64 17] w (Rb (.agg #[.string ⟨(kOf 17).name.toArray⟩, .bool (kOf 17).content, .bool (kOf 17).leaf, .bool (kOf 17).level, .bool (kOf 17).checked, .bool (kOf 17).named, .int .i64 (kOf 17).need]) w) := by
 have n1 := qYf
 have n2 := qYj
 have n3 := qYh
 have n4 := qYe 17 0 rfl
 have hmm := @run_makeMap Tryz.prog
 go_enter Tryz.func25, Tryz.ntmps25
 go_wp2_with fail
 (with_reducible refine (qQw false (fun _ => True) _ [6, 10, 18] _ _ ?h1 ?h2).mono ?_)
 case h1 => exact (qQg _ [6, 10, 18] 3 3 _ (by simp) rfl (by decide) _ rfl).mono (fun _ _ => trivial) (fun _ _ _ h => h)
 case h2 => decide
 rintro e w' ⟨rfl, rfl⟩
 go_wp2_with fail
 (with_reducible refine (qQw false (fun _ => True) _ [4, 7, 8, 9, 14, 15] _ _ ?h1 ?h2).mono ?_)
 case h1 => exact (qQg _ [4, 7, 8, 9, 14, 15] 3 6 _ (by simp) rfl (by decide) _ rfl).mono (fun _ _ => trivial) (fun _ _ _ h => h)
 case h2 => decide
 rintro e w' ⟨rfl, rfl⟩
 go_wp2_with fail
 (with_reducible refine (qQw false (fun _ => True) _ [8, 9, 10, 11, 12] _ _ ?h1 ?h2).mono ?_)
 case h1 => exact (qQg _ [8, 9, 10, 11, 12] 3 5 _ (by simp) rfl (by decide) _ rfl).mono (fun _ _ => trivial) (fun _ _ _ h => h)
 case h2 => decide
 rintro e w' ⟨rfl, rfl⟩
 go_wp2
 refine bodyPost_ret (v := _) (by simp [results, Tryz.results25, go_sem]; decide) rfl ⟨rfl, ?_⟩
 repeat (first | exact Below.refl _ _ | refine Below.setCell ?_ (by first | (simp; done) | (simp; omega)) _ | refine Below.alloc ?_ (by first | (simp; done) | (simp; omega)) _)
theorem zXf (w : World) :
 Calls Tryz.prog 25 #[.int .i64 18] w (Rb (.agg #[.string ⟨(kOf 18).name.toArray⟩, .bool (kOf 18).content, .bool (kOf 18).leaf, .bool (kOf 18).level, .bool (kOf 18).checked, .bool (kOf 18).named, .int .i64 (kOf 18).need]) w) := by
 have n1 := qYf
 have n2 := qYj
 have n3 := qYh
 have n4 := qYe 18 0 rfl
 have hmm := @run_makeMap Tryz.prog
 go_enter Tryz.func25, Tryz.ntmps25
 go_wp2_with fail
 (with_reducible refine (qQw true (fun _ => True) _ [6, 10, 18] _ _ ?h1 ?h2).mono ?_)
 case h1 => exact (qQg _ [6, 10, 18] 3 3 _ (by simp) rfl (by decide) _ rfl).mono (fun _ _ => trivial) (fun _ _ _ h => h)
 case h2 => decide
 rintro e w' ⟨rfl, rfl⟩
 go_wp2_with fail
 (with_reducible refine (qQw false (fun _ => True) _ [4, 7, 8, 9, 14, 15] _ _ ?h1 ?h2).mono ?_)
 case h1 => exact (qQg _ [4, 7, 8, 9, 14, 15] 3 6 _ (by simp) rfl (by decide) _ rfl).mono (fun _ _ => trivial) (fun _ _ _ h => h)
 case h2 => decide
 rintro e w' ⟨rfl, rfl⟩
 go_wp2_with fail
 (with_reducible refine (qQw false (fun _ => True) _ [8, 9, 10, 11, 12] _ _ ?h1 ?h2).mono ?_)
 case h1 => exact (qQg _ [8, 9, 10, 11, 12] 3 5 _ (by simp) rfl (by decide) _ rfl).mono (fun _ _ => trivial) (fun _ _ _ h => h)
 case h2 => decide
 rintro e w' ⟨rfl, rfl⟩
 go_wp2
 refine bodyPost_ret (v := _) (by simp [results, Tryz.results25, go_sem]; decide) rfl ⟨rfl, ?_⟩
 repeat (first | exact Below.refl _ _ | refine Below.setCell ?_ (by first | (simp; done) | (simp; omega)) _ | refine Below.alloc ?_ (by first | (simp; done) | (simp; omega)) _)
theorem zJg (r : Int) (h : r < 1 ∨ 18 < r) (w : World) :
 Calls Tryz.prog 25 #[.int .i64 r] w (Rb (.agg #[.string ⟨(kOf r).name.toArray⟩, .bool (kOf r).content, .bool (kOf r).leaf, .bool (kOf r).level, .bool (kOf r).checked, .bool (kOf r).named, .int .i64 (kOf r).need]) w) := by
 rw [zW0 h]
 rcases h with h | h
 all_goals
  go_enter Tryz.func25, Tryz.ntmps25
  go_wp2
  refine bodyPost_ret (v := _) (by simp [results, Tryz.results25, go_sem]; decide) rfl ⟨rfl, ?_⟩
  repeat (first | exact Below.refl _ _ | refine Below.setCell ?_ (by first | (simp; done) | (simp; omega)) _ | refine Below.alloc ?_ (by first | (simp; done) | (simp; omega)) _)
theorem qKi (r : Int) (w : World) :
 Calls Tryz.prog 25 #[.int .i64 r] w (Rb (.agg #[.string ⟨(kOf r).name.toArray⟩, .bool (kOf r).content, .bool (kOf r).leaf, .bool (kOf r).level, .bool (kOf r).checked, .bool (kOf r).named, .int .i64 (kOf r).need]) w) := by
 by_cases h : r < 1 ∨ 18 < r
 · exact zJg r h w
 · rcases qYt (r := r) (by omega) (by omega) with rfl | rfl | rfl | rfl | rfl | rfl | rfl | rfl | rfl | rfl | rfl | rfl | rfl | rfl | rfl | rfl | rfl | rfl
   · exact zVu w
   · exact zW1 w
   · exact zWq w
   · exact zY1 w
   · exact zWf w
   · exact zYv w
   · exact zWo w
   · exact zWi w
   · exact zWx w
   · exact zYf w
   · exact zXb w
   · exact zXs w
   · exact zK8 w
   · exact zXp w
   · exact zYb w
   · exact zXv w
   · exact zK1 w
   · exact zXf w
end Go.Proofs.YtklbmkaomojciaaGreat
