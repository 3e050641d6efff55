/- diff.move, in memory: the item is cut out, and put elsewhere. -/
import Derived.Test.YtklbmkaomojciaaDiffSub
namespace Go.Proofs.Ytklbmkaomojciaa
open Go.RowKit
structure Mid (base : Nat) (box : Addr) (w : World) (S : Int -> Sv) (t : Fl) (x : Int) (W : World) (S2 : Int -> Sv) (lab2 : Nat -> Int) : Prop where
 tab : qQg base W S2 lab2 (dropF t x)
 ext : ∀ n, Reach t.kids x n -> qQc 8 rdIc base 35 W (S2 n).v ((t.kids n).map (icOf t S2)) /\ ∀ b, (S2 n).v.ownBlock = some b -> lab2 b = n
 boxed : BoxOk W box S2 (dropF t x)
 apart : ∀ n, (n = -1 ∨ Has t n) -> (S2 n).v.ownBlock ≠ some box.block
 same : ∀ n, Reach t.kids x n -> S2 n = S n
 os : W.os = w.os
 tape : W.tape = w.tape
 output : W.output = w.output
 size : w.heap.size <= W.heap.size
 block : ∀ b, b < w.heap.size -> b ≠ box.block -> (∀ n, (n = -1 ∨ Has t n) -> (S n).v.ownBlock ≠ some b) -> W.heap[b]? = w.heap[b]?
 rows : ∀ n, (n = -1 ∨ Has t n) -> ∀ b, (S2 n).v.ownBlock = some b -> w.heap.size <= b ∨ ∃ m, (m = -1 ∨ Has t m) /\ (S m).v.ownBlock = some b
 side : Side box w W
theorem mid_of {base : Nat} {w w' : World} {S : Int -> Sv} {lab : Nat -> Int} {t : Fl} (h : qQg base w S lab t) (hw : Wf t) {box : Addr} (hb : BoxOk w box S t) {x : Int} (hx : Has t x) {s' : Sv} (hg : w.grownBy w' (S (t.par x)).v.ownBlock)
 (hO : qQc 8 rdIc base 35 w' s'.v (((t.kids (t.par x)).map (icOf t S)).eraseIdx ((t.kids (t.par x)).idxOf x))) (hF : qQu w (S (t.par x)).v s'.v) :
 ∃ S2 lab2, Mid base box w S t x (w'.setCell (qQe box t (fun n => (S n).v) (t.par x)) s'.v) S2 lab2 := by
 have hp := hw.par_has hx
 obtain ⟨b1, b2, b3, b4, b5, b6⟩ := qYz h hw hb hp hg hF
 have hsub : ∀ n, (n = -1 ∨ Has (dropF t x) n) -> (n = -1 ∨ Has t n) := fun n hn => hn.imp id (qZ3 hw)
 have hnot : ¬ Reach t.kids x (t.par x) := fun e => by
  obtain ⟨μ, N, F⟩ := hw.falls
  have h1 := Reach.le F e
  have h2 := F.down _ _ hx
  omega
 have hrow : ∀ n, (n = -1 ∨ Has t n) -> ∀ b, (if n = t.par x then s' else S n).v.ownBlock = some b -> s'.v.ownBlock = some b ∨ ∃ m, (m = -1 ∨ Has t m) /\ (S m).v.ownBlock = some b := fun n hn b hb' => by
  by_cases hnt : n = t.par x
  · rw [if_pos hnt] at hb'
    exact .inl hb'
  · rw [if_neg hnt] at hb'
    exact .inr ⟨n, hn, hb'⟩
 have hap : ∀ n, (n = -1 ∨ Has t n) -> (if n = t.par x then s' else S n).v.ownBlock ≠ some box.block := fun n hn e => by
  rcases hrow n hn _ e with e2 | ⟨m, hm, e2⟩
  · exact b4 e2
  · exact hb.apart m hm e2
 obtain ⟨d1, d2⟩ := h.dropped hw hx hg hO hF hb.lt hb.apart
 refine ⟨fun n => if n = t.par x then s' else S n, _, d1, fun n hr => ?_, ⟨?_, b2, b3, fun n hn => hap n (hsub n hn)⟩, hap, fun n hr => if_neg (fun (e : n = t.par x) => hnot (e ▸ hr)), hg.os, hg.tape, hg.output, ?_, b5, fun n hn b hb' => ?_, b6⟩
 · have hnp : n ≠ t.par x := fun e => hnot (e ▸ hr)
   have hm : (t.kids n).map (icOf t (fun n => if n = t.par x then s' else S n)) = (t.kids n).map (icOf t S) := List.map_congr_left (fun k hk => by
    have : k ≠ t.par x := fun e => hnot (e ▸ .step hr hk)
    unfold icOf
    simp only [if_neg this])
   rw [hm]
   simp only [if_neg hnp]
   exact d2 n hr
 · rw [b1]
   by_cases e : t.par x = -1
   · simp [e]
   · have : ¬ (-1 : Int) = t.par x := fun e2 => e e2.symm
     simp only [if_neg e, if_neg this]
 · rw [World.size_setCell]; exact hg.size
 · rcases hrow n hn b hb' with e2 | e2
   · rcases hF with e | ⟨k, e, hk⟩
     · exact .inr ⟨t.par x, hp, e ▸ e2⟩
     · rw [e] at e2
       cases e2
       exact .inl hk
   · exact .inr e2
section
variable {base : Nat} {w W : World} {S S2 : Int -> Sv} {lab2 : Nat -> Int} {t : Fl} {box : Addr} {x : Int}
theorem Mid.bel {W' : World} (h : Mid base box w S t x W S2 lab2) (hb : Bel W W') : Mid base box w S t x W' S2 lab2 :=
 ⟨h.tab.bel hb, fun n hr => ⟨(h.ext n hr).1.agree (fun b hb' => hb.block b ((h.ext n hr).1.lt b hb').2) (fun _ _ _ hr => by unfold rdIc at hr ⊢; exact hr), (h.ext n hr).2⟩, h.boxed.bel hb, h.apart, h.same, hb.os.trans h.os, hb.tape.trans h.tape, hb.output.trans h.output, Nat.le_trans h.size hb.size, fun b a1 a2 a3 => (hb.block b (Nat.lt_of_lt_of_le a1 h.size)).trans (h.block b a1 a2 a3), h.rows, h.side.trans (Side.bel hb) h.size⟩
theorem Mid.moved (hw : Wf t) (h : Mid base box w S t x W S2 lab2) {tw : Int} {i : Nat} (hx : Has t x) (hto : tw = -1 ∨ Has t tw) (hl : ¬ Reach t.kids x tw) (hi : i <= (cutF t x tw).length) {w' : World} {s' : Sv} (hg : W.grownBy w' (S2 tw).v.ownBlock)
 (hO : qQc 8 rdIc base 35 w' s'.v ((((dropF t x).kids tw).map (icOf t S2)).take i ++ [⟨t.head x, (S2 x).a, (S2 x).n, (S2 x).c⟩] ++ (((dropF t x).kids tw).map (icOf t S2)).drop i)) (hF : qQu W (S2 tw).v s'.v) :
 Grew base box w S t (w'.setCell (qQe box (dropF t x) (fun n => (S2 n).v) tw) s'.v) (qQ7 t x tw i) := by
 have hw0 := qJ7 hw x
 have hto0 : tw = -1 ∨ Has (dropF t x) tw := by
  rcases hto with e | e
  · exact .inl e
  · exact .inr ((qQr hw).2 ⟨e, hl⟩)
 obtain ⟨b1, b2, b3, b4, b5, b6⟩ := qYz h.tab hw0 h.boxed hto0 hg hF
 have hrow : ∀ n, (n = -1 ∨ Has (qQ7 t x tw i) n) -> ∀ b, (if n = tw then s' else S2 n).v.ownBlock = some b -> s'.v.ownBlock = some b ∨ ∃ m, (m = -1 ∨ Has t m) /\ (S2 m).v.ownBlock = some b := fun n hn b hb' => by
  by_cases hnt : n = tw
  · rw [if_pos hnt] at hb'
    exact .inl hb'
  · rw [if_neg hnt] at hb'
    refine .inr ⟨n, ?_, hb'⟩
    rcases hn with e | hn
    · exact .inl e
    · right
      by_cases e : n = x
      · rw [e]; exact hx
      · unfold Has qQ7 at hn
        simp only [if_neg e] at hn
        split at hn
        · rename_i e2
          rw [mem_insertIdx hi] at hn
          rcases hn with e3 | hn
          · exact absurd e3 e
          · have := ((qZ5 hw).1 hn).1
            unfold Has; rw [e2]; exact this
        · exact ((qZ5 hw).1 hn).1
 refine ⟨_, _, h.tab.moved hw hx hto hl hi h.ext hg hO hF h.boxed.lt h.apart, ⟨?_, b2, b3, fun n hn e => ?_⟩, ⟨?_, ?_, ?_, ?_, fun b a1 a2 a3 => ?_, fun n hn b hb' => ?_, h.side.trans b6 h.size⟩⟩
 · rw [b1]
   by_cases e : tw = -1
   · simp [e]
   · have : ¬ (-1 : Int) = tw := fun e2 => e e2.symm
     simp only [if_neg e, if_neg this]
 · rcases hrow n hn _ e with e2 | ⟨m, hm, e2⟩
   · exact b4 e2
   · exact h.apart m hm e2
 · exact hg.os.trans h.os
 · exact hg.tape.trans h.tape
 · exact hg.output.trans h.output
 · rw [World.size_setCell]; exact Nat.le_trans h.size hg.size
 · refine (b5 b (Nat.lt_of_lt_of_le a1 h.size) a2 (fun n hn e => ?_)).trans (h.block b a1 a2 a3)
   rcases h.rows n (hn.imp id (qZ3 hw)) b e with e2 | ⟨m, hm, e2⟩
   · omega
   · exact a3 m hm e2
 · rcases hrow n hn b hb' with e2 | ⟨m, hm, e2⟩
   · rcases hF with e | ⟨k, e, hk⟩
     · exact h.rows tw hto b (e ▸ e2)
     · rw [e] at e2
       cases e2
       exact .inl (Nat.le_trans h.size hk)
   · exact h.rows m hm b e2
end
end Go.Proofs.Ytklbmkaomojciaa
