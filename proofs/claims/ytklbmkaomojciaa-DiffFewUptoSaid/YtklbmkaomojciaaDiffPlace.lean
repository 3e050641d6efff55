/- diff's differ places items: walked. -/
import Derived.Test.YtklbmkaomojciaaDiffLone
import Derived.LaidEqlPtr
namespace Go.Proofs.Ytklbmkaomojciaa
open Go.RowKit
structure PlSt (B t : Fl) (c : Int -> Nat) (w : Int) (i : Nat) : Prop where
 inv : Inv B t c
 here : w = -1 ∨ qQ4 B c w
 cw : c w = i
 zero : ∀ j (h : j < (B.kids w).length), i <= j -> ∀ y, Reach B.kids (B.kids w)[j] y -> c y = 0
theorem pl_start {B t : Fl} {c : Int -> Nat} {w : Int} (I : Inv B t c) (hw : w = -1 ∨ qQ4 B c w) (h0 : ∀ y, Reach B.kids w y -> c y = 0) : PlSt B t c w 0 :=
 ⟨I, hw, h0 w .here, fun _ h _ y hr => h0 y (hr.trans (.step .here (List.getElem_mem h)))⟩
open Classical in
theorem pl_next {B t : Fl} {c : Int -> Nat} {w : Int} {i : Nat} (hB : Wf B) (hBh : qXw B) {μ : Int -> Nat} {N f : Nat} (F : Falls B.kids μ N) (hf : N < μ w + (f + 1)) (P : PlSt B t c w i) (hi : i < (B.kids w).length) :
 GoesL t (qQq B t (B.kids w)[i] w i).2 (qQq B t (B.kids w)[i] w i).1 /\ (∃ c1, Inv B (qQq B t (B.kids w)[i] w i).1 c1 /\ qQ4 B c1 (B.kids w)[i] /\ ∀ y, Reach B.kids (B.kids w)[i] y -> c1 y = 0) /\
 ∃ c2, PlSt B (qQi B f (B.kids w)[i] (qQq B t (B.kids w)[i] w i).1).1 c2 w (i + 1) := by
 obtain ⟨s1, s2, s3⟩ := qHl hB hBh P.inv P.here P.cw hi
 have hxB := List.getElem_mem hi
 have hxw : ∀ y, Reach B.kids (B.kids w)[i] y -> y ≠ w := fun y hr e => by
  subst e
  have := Reach.le F hr
  have := F.down _ _ hxB
  omega
 have hz : ∀ y, Reach B.kids (B.kids w)[i] y -> (if y = w then i + 1 else c y) = 0 := fun y hr => by
  rw [if_neg (hxw y hr)]
  exact P.zero i hi (Nat.le_refl _) y hr
 obtain ⟨r1, r2⟩ := qY8 hB hBh F f _ _ _ s2 (.inr s3) (by have := F.down _ _ hxB; omega) hz
 refine ⟨s1, ⟨_, s2, s3, hz⟩, _, r2, ?_, by rw [if_neg (fun hr => hxw w hr rfl), if_pos rfl], fun j hj hij y hr => ?_⟩
 · rcases P.here with e | e
   · exact .inl e
   · right
     unfold qQ4 at e ⊢
     refine (List.take_subset_take_left _ ?_) e
     show c (B.par w) <= if Reach B.kids (B.kids w)[i] (B.par w) then (B.kids (B.par w)).length else if B.par w = w then i + 1 else c (B.par w)
     split
     · exact P.inv.le _
     · exact qWt P.cw _
 · have hjB := List.getElem_mem hj
   have hne : (B.kids w)[j] ≠ (B.kids w)[i] := fun e => by
    have := (List.getElem_inj (hB.alone.once w)).1 e
    omega
   have hyw : y ≠ w := fun e => by
    subst e
    have := Reach.le F hr
    have := F.down _ _ hjB
    omega
   have both : ∀ {a b : Int}, a ∈ B.kids w -> b ∈ B.kids w -> Reach B.kids a b -> a = b := fun ha hb hr => by
    cases hr with
    | here => rfl
    | @step p _ h5 h6 =>
      have e1 := hB.alone.par _ _ h6
      have e2 := hB.alone.par _ _ hb
      rw [e1] at e2
      subst e2
      have := Reach.le F h5
      have := F.down _ _ ha
      omega
   have hnr : ¬ Reach B.kids (B.kids w)[i] y := fun h2 => by
    rcases qKp hB.alone hr h2 with h5 | h5
    · exact hne (both hjB hxB h5)
    · exact hne (both hxB hjB h5).symm
   rw [if_neg hnr, if_neg hyw]
   exact P.zero j hj (by omega) y hr
theorem qB4 (rec : Int -> Fl -> Fl × List Evt) (B : Fl) (w : Int) (t : Fl) {l : List Int} {i : Nat} (hi : i < l.length) : qQ9 rec B w i (l.drop i) t =
 ((qQ9 rec B w (i + 1) (l.drop (i + 1)) (rec l[i] (qQq B t l[i] w i).1).1).1, (qQq B t l[i] w i).2 ++ ((rec l[i] (qQq B t l[i] w i).1).2 ++ (qQ9 rec B w (i + 1) (l.drop (i + 1)) (rec l[i] (qQq B t l[i] w i).1).1).2)) := by
 rw [List.drop_eq_getElem_cons hi]
 rfl
theorem cell_inj {base : Nat} {w : World} {S : Int -> Sv} {lab : Nat -> Int} {t : Fl} (h : qQg base w S lab t) (hw : Wf t) {box : Addr} (hb : BoxOk w box S t) {n m : Int} (hn : n = -1 ∨ Has t n) (hm : m = -1 ∨ Has t m) (e : qQe box t (fun n => (S n).v) n = qQe box t (fun n => (S n).v) m) : n = m := by
 rcases h.cell hw hn box with ⟨rfl, e1⟩ | ⟨h1, g, cap, hS, e1⟩ <;> rcases h.cell hw hm box with ⟨rfl, e2⟩ | ⟨h2, g2, cap2, hS2, e2⟩
 · rfl
 · exfalso
   rw [e1, e2] at e
   exact hb.apart _ (hw.par_has h2) (by rw [hS2, e]; rfl)
 · exfalso
   rw [e1, e2] at e
   exact hb.apart _ (hw.par_has h1) (by rw [hS, <- e]; rfl)
 · rw [e1, e2] at e
   simp only [Addr.mk.injEq] at e
   obtain ⟨e3, e4, -⟩ := e
   subst e3
   have hp : t.par n = t.par m := (h.owner (hw.par_has h1) (b := g) (by rw [hS]; rfl)).symm.trans (h.owner (hw.par_has h2) (b := g) (by rw [hS2]; rfl))
   rw [hp] at e4
   have h1' : n ∈ t.kids (t.par m) := by rw [<- hp]; exact h1
   have e5 : (t.kids (t.par m)).idxOf n = (t.kids (t.par m)).idxOf m := by omega
   have g1 := List.getElem_idxOf (List.idxOf_lt_length_of_mem h1')
   have g2 := List.getElem_idxOf (List.idxOf_lt_length_of_mem h2)
   exact g1.symm.trans (Eq.trans (by simp only [e5]) g2)
theorem qBd {base : Nat} {w : World} {S : Int -> Sv} {lab : Nat -> Int} {t : Fl} (h : qQg base w S lab t) (hw : Wf t) {D : Nat} {C : List Value} {e : TypeId} (hb : Blk w D C e) {n : Int} (hn : n = -1 ∨ Has t n) : ∃ C e, Blk w (qQe ⟨D, 0, none⟩ t (fun n => (S n).v) n).block C e := by
 rcases h.cell hw hn ⟨D, 0, none⟩ with ⟨rfl, e1⟩ | ⟨h1, g, cap, hS, e1⟩
 · rw [e1]
   exact ⟨C, e, hb⟩
 · rw [e1]
   obtain ⟨xss, q1, q2, q3⟩ := (h _ (hw.par_has h1)).1
   rcases q3.2 with ⟨e2, _⟩ | ⟨g', cap', cur, e2, _, hg, _⟩
   · rw [hS] at e2; unfold Sv.v at e2; simp at e2
   · have : g = g' := by rw [hS] at e2; unfold Sv.v at e2; simp at e2; exact e2.1
     subst this
     exact ⟨cur.toList, _, by unfold Blk; rw [Array.toArray_toList]; exact hg⟩
theorem qWx (w : World) {a b : Addr} {ca cb : List Value} {ta tb : TypeId} (ha : Blk w a.block ca ta) (hb : Blk w b.block cb tb) : (binOp .neq 47 (.pointer (some a)) (.pointer (some b))).run Try.prog w = .ok (.bool (!decide (a = b))) w := by
 have hp : Try.prog.underlying 47 = some (.pointer 22) := by kernel_rfl
 obtain ⟨i, hi, hs⟩ := Option.map_eq_some_iff.1 (by kernel_rfl : (Try.prog.info? 22).map (fun i => i.size) = some 1)
 by_cases e : a = b
 · subst e
   have h : ∀ d : Nat, (Op.equalIn (d + 1) 47 (.pointer (some a)) (.pointer (some a))).run Try.prog w = .ok true w := fun d => by
    simp [Op.equalIn, run_underlying hp, sizeOf, typeInfo, hi, run_sameAddr_same]
   simp only [binOp]
   simp [Op.equal, Op.maxDepth, h 9999]
 · have h : ∀ d : Nat, (Op.equalIn (d + 1) 47 (.pointer (some a)) (.pointer (some b))).run Try.prog w = .ok false w := fun d => by
    simp [Op.equalIn, run_underlying hp, sizeOf, typeInfo, hi, hs, run_sameAddr_other w e ha hb]
   simp only [binOp]
   simp [Op.equal, Op.maxDepth, h 9999, e]
theorem qK6 {w0 : WP} {w : World} {D : Nat} {L : List Int} {t : Fl} {evs : List Evt} (M : Dif w0 D w L t evs) (x : Int) : ∃ pv kv, (∀ W, Bel w W -> Calls Try.prog 17 #[.pointer (some ⟨D, 0, none⟩), .int .i64 x] W (Rv (.tuple #[pv, kv]) W)) /\
 ((¬ Has t x /\ pv = .pointer none) ∨ (Has t x /\ ∃ b o, pv = .pointer (some b) /\ kv = .int .i64 ((t.kids (t.par x)).idxOf x : Nat) /\ (∀ W, Bel w W -> ∃ g cap kv2, W.cell? b = some (.slice (some ⟨g, 0, none⟩) (t.kids (t.par x)).length cap) /\ (t.kids (t.par x)).length <= cap /\ cap <= 9223372036854775807 /\ TabC W g ((t.kids (t.par x)).idxOf x * 8) (t.head x) kv2 /\ o = g /\ ∀ k μ N, Falls t.kids μ N -> N < k -> ItsK (· < W.heap.size) k W kv2 (itsOf t k x)) /\
  ∀ tw, (tw = -1 ∨ Has t tw) -> ∃ a, (∀ W, Bel w W -> Calls Try.prog 31 #[.pointer (some ⟨D, 0, none⟩), .int .i64 tw] W (Rv (.pointer (some a)) W)) /\ (b = a ↔ t.par x = tw) /\ ∀ W, Bel w W -> (binOp .neq 47 (.pointer (some b)) (.pointer (some a))).run Try.prog W = .ok (.bool (!decide (b = a))) W)) := by
 obtain ⟨h1, h2, h3, h4, h5, ⟨S, lab, ov, k1, k2, k3, k4, k5, k6, k7, -⟩, ⟨Cb, eb', hbk⟩, -⟩ := M
 obtain ⟨μ, N, F⟩ := h1.falls
 have eb : qQe ⟨D, 0, none⟩ t (fun n => (S n).v) (-1) = ⟨D, 0, none⟩ := by unfold qQe; rw [if_pos rfl]
 by_cases hx : Has t x
 · have hp := h1.par_has hx
   refine ⟨.pointer (some (qQe ⟨D, 0, none⟩ t (fun n => (S n).v) (t.par x))), .int .i64 ((t.kids (t.par x)).idxOf x : Nat), fun W hW => qZt (k1.bel hW) h1 h2 (k2.bel hW) hx, .inr ⟨hx, qQe ⟨D, 0, none⟩ t (fun n => (S n).v) (t.par x), ?_⟩⟩
   have hlt : (t.kids (t.par x)).idxOf x < (t.kids (t.par x)).length := List.idxOf_lt_length_of_mem hx
   obtain ⟨g, off, cap, e1, e2, e3, hg, hT⟩ := k1.rd.item hp _ hlt
   have hoff : off = 0 := by
    rcases (k1 _ hp).1 with ⟨xss, q1, q2, q3⟩
    rcases q3.2 with ⟨e, _⟩ | ⟨g', cap', cur, e, _⟩
    · rw [e1] at e; simp at e
    · rw [e1] at e; simp at e; exact e.1.2
   subst hoff
   refine ⟨g, rfl, rfl, fun W hW => ?_, fun tw htw => ⟨qQe ⟨D, 0, none⟩ t (fun n => (S n).v) tw, fun W hW => qZ2 h1 F (Nat.lt_succ_self N) h2 tw W (k1.bel hW).rd (k2.bel hW).cell htw, ⟨?_, fun e => by rw [e]⟩, fun W hW => ?_⟩⟩
   · obtain ⟨g2, off2, cap2, e1', e2', e3', hg', hT'⟩ := (k1.bel hW).rd.item hp _ hlt
     have hs := e1.symm.trans e1'
     simp at hs
     obtain ⟨⟨rfl, rfl⟩, rfl⟩ := hs
     have hx2 : (t.kids (t.par x))[(t.kids (t.par x)).idxOf x] = x := List.getElem_idxOf hlt
     rw [hx2] at hT'
     refine ⟨g, cap, _, ?_, e2, e3, by simpa using hT', rfl, fun k μ' N' F' hk => (qGq (k1.bel hW).rd h1 F' k x (.inr hx) (by omega)).mono (fun b hb => hb.2)⟩
     rw [(k1.bel hW).rd.cell h1 (k2.bel hW).cell hp]
     exact congrArg some e1
   · exact fun e => cell_inj k1 h1 k2 hp htw e
   · obtain ⟨C1, e1, b1⟩ := qBd (k1.bel hW) h1 (hbk.bel hW) hp
     obtain ⟨C2, e2, b2⟩ := qBd (k1.bel hW) h1 (hbk.bel hW) htw
     exact qWx W b1 b2
 · refine ⟨.pointer none, .int .i64 0, fun W hW => ?_, .inl ⟨hx, rfl⟩⟩
   have := qQy (box := ⟨D, 0, none⟩) h1 F h2 x (N + 1) (-1) W (k1.bel hW).rd (.inl rfl) (by omega) ((k1.bel hW).rd.cell h1 (k2.bel hW).cell (.inl rfl))
   rw [qKt h1 F (Nat.lt_succ_self N) hx, eb] at this
   exact this
end Go.Proofs.Ytklbmkaomojciaa
