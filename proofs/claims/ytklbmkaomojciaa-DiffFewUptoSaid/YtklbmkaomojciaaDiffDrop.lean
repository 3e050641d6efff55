/- diff.one: a removal, walked. -/
import Derived.Test.YtklbmkaomojciaaDiffAdd
set_option maxRecDepth 100000
set_option maxHeartbeats 4000000
namespace Go.Proofs.Ytklbmkaomojciaa
open Go.RowKit
theorem Wf.par_has {t : Fl} (hw : Wf t) {x : Int} (hx : Has t x) : t.par x = -1 ∨ Has t (t.par x) := hw.kids_has (by intro e; unfold Has at hx; rw [e] at hx; simp at hx)
theorem qGc {base : Nat} {w w' : World} {S : Int -> Sv} {lab : Nat -> Int} {t : Fl} (h : qQg base w S lab t) (hw : Wf t) {box : Addr} (hb : BoxOk w box S t) {x : Int} (hx : Has t x) {s' : Sv} (hg : w.grownBy w' (S (t.par x)).v.ownBlock)
 (hO : qQc 8 rdIc base 35 w' s'.v (((t.kids (t.par x)).map (icOf t S)).eraseIdx ((t.kids (t.par x)).idxOf x))) (hF : qQu w (S (t.par x)).v s'.v) :
 Grew base box w S t (w'.setCell (qQe box t (fun n => (S n).v) (t.par x)) s'.v) (dropF t x) := by
 have hp := hw.par_has hx
 obtain ⟨b1, b2, b3, b4, b5, b6⟩ := qYz h hw hb hp hg hF
 have hsub : ∀ n, (n = -1 ∨ Has (dropF t x) n) -> (n = -1 ∨ Has t n) := fun n hn => hn.imp id (qZ3 hw)
 have hrow : ∀ n, (n = -1 ∨ Has (dropF t x) n) -> ∀ b, (if n = t.par x then s' else S n).v.ownBlock = some b -> s'.v.ownBlock = some b ∨ ∃ m, (m = -1 ∨ Has t m) /\ (S m).v.ownBlock = some b := fun n hn b hb' => by
  by_cases hnt : n = t.par x
  · rw [if_pos hnt] at hb'
    exact .inl hb'
  · rw [if_neg hnt] at hb'
    exact .inr ⟨n, hsub n hn, hb'⟩
 refine ⟨_, _, (h.dropped hw hx hg hO hF hb.lt hb.apart).1, ⟨?_, b2, b3, fun n hn e => ?_⟩, ⟨?_, ?_, ?_, ?_, b5, fun n hn b hb' => ?_, b6⟩⟩
 · rw [b1]
   by_cases e : t.par x = -1
   · simp [e]
   · have : ¬ (-1 : Int) = t.par x := fun e2 => e e2.symm
     simp only [if_neg e, if_neg this]
 · rcases hrow n hn _ e with e2 | ⟨m, hm, e2⟩
   · exact b4 e2
   · exact hb.apart m hm e2
 · exact hg.os
 · exact hg.tape
 · exact hg.output
 · rw [World.size_setCell]; exact hg.size
 · rcases hrow n hn b hb' with e2 | e2
   · rcases hF with e | ⟨k, e, hk⟩
     · exact .inr ⟨t.par x, hp, e ▸ e2⟩
     · rw [e] at e2
       cases e2
       exact .inl hk
   · exact .inr e2
theorem qZt {base : Nat} {w : World} {S : Int -> Sv} {lab : Nat -> Int} {t : Fl} (hT : qQg base w S lab t) (hw : Wf t) (hh : ∀ n, Has t n -> (t.head n).node = n) {box : Addr} (hb : BoxOk w box S t) {x : Int} (hx : Has t x) :
 Calls Try.prog 17 #[.pointer (some box), .int .i64 x] w (Rv (.tuple #[.pointer (some (qQe box t (fun n => (S n).v) (t.par x))), .int .i64 ((t.kids (t.par x)).idxOf x : Nat)]) w) := by
 obtain ⟨μ, N, F⟩ := hw.falls
 have hc := hT.rd.cell hw hb.cell (.inl rfl)
 have := qQy (box := box) hw F hh x (N + 1) (-1) w hT.rd (.inl rfl) (by omega) hc
 rw [qXo hw F (Nat.lt_succ_self N) hx] at this
 have eb : qQe box t (fun n => (S n).v) (-1) = box := by unfold qQe; rw [if_pos rfl]
 rw [eb] at this
 exact this
theorem qX7 {base : Nat} {w : World} {S : Int -> Sv} {lab : Nat -> Int} {t : Fl} (hT : qQg base w S lab t) (hw : Wf t) (hh : ∀ n, Has t n -> (t.head n).node = n) {box : Addr} (hb : BoxOk w box S t) {x : Int} {eb eo : Nat} (hk : w.cell? ⟨eb, eo, none⟩ = some (.int .i64 1)) (hn : w.cell? ⟨eb, eo + 1, none⟩ = some (.int .i64 x))
 (hx : Has t x) (hl : (t.kids (t.par x)).length <= 1000000000) :
 Calls Try.prog 15 #[.pointer (some box), .pointer (some ⟨eb, eo, none⟩)] w fun e w' => e = .returned (.int .i64 0) /\ Grew base box w S t w' (dropF t x) := by
 have hp := hw.par_has hx
 obtain ⟨sa, sc, hS, s1, s2⟩ := qQa.form (hT _ hp).1.read
 have hlen : (List.map (icOf t S) (t.kids (t.par x))).length = (t.kids (t.par x)).length := by simp
 rw [hlen] at hS s1
 have hlt : (t.kids (t.par x)).idxOf x < (t.kids (t.par x)).length := List.idxOf_lt_length_of_mem hx
 have cF := lH (qZt hT hw hh hb hx)
 have hcc0 := hT.rd.cell hw hb.cell hp
 have hfz := hT.open_ hw hb hp
 have cD : Hid (Calls Try.prog 28 #[.slice sa (t.kids (t.par x)).length sc, .int .i64 ((t.kids (t.par x)).idxOf x : Nat), .int .i64 (((t.kids (t.par x)).idxOf x : Nat) + 1)] w fun e w' => ∃ a1 n1 c1, e = .returned (.slice a1 n1 c1) /\ w'.cell? (qQe box t (fun n => (S n).v) (t.par x)) = some (.slice sa (t.kids (t.par x)).length sc) /\ w'.frozen? (qQe box t (fun n => (S n).v) (t.par x)) = false /\ Grew base box w S t (w'.setCell (qQe box t (fun n => (S n).v) (t.par x)) (.slice a1 n1 c1)) (dropF t x)) := lH (by
  rw [<- hS]
  refine (qK2 base (S (t.par x)).v ((t.kids (t.par x)).map (icOf t S)) ((t.kids (t.par x)).idxOf x) w (hT _ hp).1 (by simpa using hlt) (by simpa using hl)).mono ?_
  rintro e w2 ⟨y, rfl, o2, g2, f2⟩
  obtain ⟨sv, rfl⟩ := qVf o2
  have hblk := qJy hT hw hb hp g2
  exact ⟨sv.a, sv.n, sv.c, rfl, (World.cell?_of_block hblk).trans hcc0, (World.frozen?_of_block hblk).trans hfz, qGc hT hw hb hx g2 o2 (.inl f2)⟩)
 have hcc : w.cell? (qQe box t (fun n => (S n).v) (t.par x)) = some (.slice sa (t.kids (t.par x)).length sc) := by rw [<- hS]; exact hcc0
 clear hS hT hb hcc0
 generalize qQe box t (fun n => (S n).v) (t.par x) = ca at *
 generalize (t.kids (t.par x)).idxOf x = k at *
 generalize (t.kids (t.par x)).length = L at *
 have hov : (-9223372036854775808 : Int) <= (k : Int) + 1 /\ (k : Int) + 1 <= 9223372036854775807 := by omega
 go_enter Try.func15, Try.ntmps15
 go_wp2_with first
  | (go_at_call 17; (with_reducible refine cF.out.mono ?_); rintro e w1 ⟨rfl, rfl⟩)
  | (go_at_call 28; (with_reducible refine cD.out.mono ?_); rintro e w2 ⟨ya, yn, yc, rfl, x6, f6, st⟩; have HST := lH st; clear st)
 go_ret
 exact ⟨rfl, HST.out⟩
end Go.Proofs.Ytklbmkaomojciaa
