/- A tree of the call's own, list by list: one list is put in another one's place. -/
import Derived.Test.YtklbmkaomojciaaTabMem
namespace Go.Proofs.Ytklbmkaomojciaa
open Go.RowKit
section
variable {base : Nat} {w w' : World} {S : Int -> Sv} {lab : Nat -> Int} {t : Fl}
theorem qQg.owner (h : qQg base w S lab t) {n : Int} (hn : n = -1 ∨ Has t n) {b : Nat} (hb : (S n).v.ownBlock = some b) : lab b = n := (h n hn).2 b hb
theorem qQg.apart (h : qQg base w S lab t) {n m : Int} (hn : n = -1 ∨ Has t n) (hm : m = -1 ∨ Has t m) (hne : n ≠ m) {b : Nat} (hb : (S n).v.ownBlock = some b) : (S m).v.ownBlock ≠ some b := fun e => hne ((h.owner hn hb).symm.trans (h.owner hm e))
theorem qQg.lt (h : qQg base w S lab t) {n : Int} (hn : n = -1 ∨ Has t n) {b : Nat} (hb : (S n).v.ownBlock = some b) : base <= b /\ b < w.heap.size := (h n hn).1.lt b hb
theorem qQg.cell (h : qQg base w S lab t) (hw : Wf t) {tq : Int} (hto : tq = -1 ∨ Has t tq) (box : Addr) : (tq = -1 /\ qQe box t (fun n => (S n).v) tq = box) ∨ (Has t tq /\ ∃ g cap, S (t.par tq) = ⟨some ⟨g, 0, none⟩, (t.kids (t.par tq)).length, cap⟩ /\ qQe box t (fun n => (S n).v) tq = ⟨g, (t.kids (t.par tq)).idxOf tq * 8 + 7, none⟩) := by
 by_cases e : tq = -1
 · left
   exact ⟨e, by unfold qQe; rw [if_pos e]⟩
 · right
   have hh : Has t tq := hto.resolve_left e
   have hp : t.par tq = -1 ∨ Has t (t.par tq) := hw.kids_has (by intro e; unfold Has at hh; rw [e] at hh; simp at hh)
   have hr := (h _ hp).1
   refine ⟨hh, ?_⟩
   obtain ⟨xss, q1, q2, q3⟩ := hr
   rcases q3.2 with ⟨e1, e2⟩ | ⟨g, cap, cur, e1, _⟩
   · exfalso
     unfold Has at hh
     simp at e2
     rw [e2] at hh
     simp at hh
   · have hS : S (t.par tq) = ⟨some ⟨g, 0, none⟩, (t.kids (t.par tq)).length, cap⟩ := by
      unfold Sv.v at e1
      have h1 := Value.slice.inj e1
      obtain ⟨a1, a2, a3⟩ := h1
      cases hs : S (t.par tq) with
      | mk a n c =>
        rw [hs] at a1 a2 a3
        simp at a1 a2 a3
        rw [a1, a2, a3]
     refine ⟨g, cap, hS, ?_⟩
     unfold qQe
     rw [if_neg e]
     simp only [hS, Sv.v, Nat.zero_add]
theorem qQg.replace (h : qQg base w S lab t) (hw : Wf t) {tq : Int} (hto : tq = -1 ∨ Has t tq) {s' : Sv} {L : List Ic} (hg : w.grownBy w' (S tq).v.ownBlock) (hO : qQc 8 rdIc base 35 w' s'.v L) (hF : qQu w (S tq).v s'.v)
 {box : Addr} (hb1 : box.block < w.heap.size) (hb2 : ∀ n, (n = -1 ∨ Has t n) -> (S n).v.ownBlock ≠ some box.block) :
 (∀ n, (n = -1 ∨ Has t n) -> n ≠ tq -> qQc 8 rdIc base 35 (w'.setCell (qQe box t (fun n => (S n).v) tq) s'.v) (S n).v ((t.kids n).map (icOf t (fun n => if n = tq then s' else S n))) /\ (∀ b, (S n).v.ownBlock = some b -> (if s'.v.ownBlock = some b then tq else lab b) = n)) /\
 qQc 8 rdIc base 35 (w'.setCell (qQe box t (fun n => (S n).v) tq) s'.v) s'.v L /\ (∀ b, s'.v.ownBlock = some b -> b ≠ (qQe box t (fun n => (S n).v) tq).block) := by
 have hnew : ∀ n, (n = -1 ∨ Has t n) -> n ≠ tq -> ∀ b, (S n).v.ownBlock = some b -> s'.v.ownBlock ≠ some b := fun n hn hne b hb e => by
  rcases hF with e2 | ⟨k, e2, hk⟩
  · exact h.apart hn hto hne hb (e2 ▸ e)
  · rw [e2] at e
    cases e
    have := (h.lt hn hb).2
    omega
 have hnb : ∀ b, s'.v.ownBlock = some b -> b ≠ box.block := fun b hb e => by
  subst e
  rcases hF with e2 | ⟨k, e2, hk⟩
  · exact hb2 tq hto (e2 ▸ hb)
  · rw [e2] at hb
    cases hb
    omega
 have hcell := h.cell hw hto box
 have hcb : ∀ b, s'.v.ownBlock = some b -> b ≠ (qQe box t (fun n => (S n).v) tq).block := fun b hb => by
  rcases hcell with ⟨_, e⟩ | ⟨hh, g, cap, hS, e⟩
  · rw [e]; exact hnb b hb
  · rw [e]
    intro e2
    have hp : t.par tq = -1 ∨ Has t (t.par tq) := hw.kids_has (by intro e; unfold Has at hh; rw [e] at hh; simp at hh)
    have hne : t.par tq ≠ tq := fun e3 => by
     obtain ⟨μ, N, F⟩ := hw.falls
     have := F.down _ _ hh
     rw [e3] at this
     omega
    exact hnew _ hp hne g (by rw [hS]; rfl) (by rw [hb, e2])
 refine ⟨fun n hn hne => ⟨?_, fun b hb => ?_⟩, ?_, hcb⟩
 · have hrow := (h n hn).1
   have hstay : ∀ b, (S n).v.ownBlock = some b -> w'.heap[b]? = w.heap[b]? := fun b hb => hg.block b (h.lt hn hb).2 (fun e => h.apart hn hto hne hb e.symm)
   rcases hcell with ⟨e1, e⟩ | ⟨hh, g, cap, hS, e⟩
   · rw [e]
     refine (hrow.conv (by simp) (fun i h1 h2 cs hr => ?_)).agree (fun b hb => ?_) (fun _ _ _ hr => hr)
     · rw [List.getElem_map] at hr ⊢
       have hk : (t.kids n)[i]'(by simpa using h1) ≠ tq := fun e2 => by
        have := (hw.has_kid (List.getElem_mem (by simpa using h1 : i < (t.kids n).length))).1
        rw [e2, e1] at this
        exact hw.no_top this
       show cs = qQd _ _
       unfold icOf
       simp only [if_neg hk]
       exact hr
     · rw [Below.heap_setCell w' _ _ b (fun e2 => hb2 n hn (by rw [hb, e2]))]
       exact hstay b hb
   · rw [e]
     by_cases hpn : n = t.par tq
     · subst hpn
       rw [hS] at hrow hstay ⊢
       have hidx : (t.kids (t.par tq)).idxOf tq < (t.kids (t.par tq)).length := List.idxOf_lt_length_of_mem hh
       have hget : (t.kids (t.par tq))[(t.kids (t.par tq)).idxOf tq] = tq := List.getElem_idxOf hidx
       refine qQc.setOne (l := (t.kids (t.par tq)).map (icOf t S)) (rd := rdIc) hrow (by simp) (hstay g rfl) _ (by simpa using hidx) 7 (by decide) s'.v (by simp) (fun cs _ hr => ?_) (fun p hp hpi ys hr => ?_)
       · rw [List.getElem_map, hget] at hr ⊢
         show _ = qQd _ _
         have hr : cs = qQd (t.head tq) (.slice (S tq).a (S tq).n (S tq).c) := hr
         subst hr
         unfold icOf
         simp only [if_true]
         rfl
       · rw [List.getElem_map] at hr ⊢
         have hk : (t.kids (t.par tq))[p]'(by simpa using hp) ≠ tq := fun e2 => by
          exact hpi ((List.getElem_inj (hw.alone.once _)).1 (e2.trans hget.symm))
         show ys = qQd _ _
         unfold icOf
         simp only [if_neg hk]
         exact hr
     · refine (hrow.conv (by simp) (fun i h1 h2 cs hr => ?_)).agree (fun b hb => ?_) (fun _ _ _ hr => hr)
       · rw [List.getElem_map] at hr ⊢
         have hk : (t.kids n)[i]'(by simpa using h1) ≠ tq := fun e2 => by
          have := (hw.has_kid (List.getElem_mem (by simpa using h1 : i < (t.kids n).length))).2
          rw [e2] at this
          exact hpn this.symm
         show cs = qQd _ _
         unfold icOf
         simp only [if_neg hk]
         exact hr
       · have hp : t.par tq = -1 ∨ Has t (t.par tq) := hw.kids_has (by intro e; unfold Has at hh; rw [e] at hh; simp at hh)
         rw [Below.heap_setCell w' _ _ b (fun e2 => h.apart hn hp hpn hb (by rw [hS]; show some g = some b; rw [e2]))]
         exact hstay b hb
 · rw [if_neg (hnew n hn hne b hb)]
   exact h.owner hn hb
 · exact hO.agree (fun b hb => Below.heap_setCell w' _ _ b (hcb b hb)) (fun _ _ _ hr => hr)
theorem qB9 {α : Type} (f : Int -> α) {l : List Int} {x : Int} : ∀ {i : Nat}, i <= l.length -> (l.insertIdx i x).map f = (l.map f).take i ++ [f x] ++ (l.map f).drop i := by
 induction l with
 | nil =>
   intro i h
   obtain rfl : i = 0 := by simpa using h
   rfl
 | cons a l ih =>
   intro i h
   cases i with
   | zero => simp
   | succ i =>
     rw [List.insertIdx_succ_cons, List.map_cons, ih (by simpa using h), List.map_cons, List.take_succ_cons, List.drop_succ_cons]
     rfl
theorem qQg.put (h : qQg base w S lab t) (hw : Wf t) {x tq : Int} {hd : Hd} {i : Nat} (hx : ¬ Has t x) (hto : tq = -1 ∨ Has t tq) (hi : i <= (t.kids tq).length) {s' sx : Sv} (hg : w.grownBy w' (S tq).v.ownBlock)
 (hO : qQc 8 rdIc base 35 w' s'.v (((t.kids tq).map (icOf t S)).take i ++ [⟨hd, sx.a, sx.n, sx.c⟩] ++ ((t.kids tq).map (icOf t S)).drop i)) (hF : qQu w (S tq).v s'.v)
 {box : Addr} (hb1 : box.block < w.heap.size) (hb2 : ∀ n, (n = -1 ∨ Has t n) -> (S n).v.ownBlock ≠ some box.block) :
 ∀ n, n ≠ x -> (n = -1 ∨ Has t n) -> qQc 8 rdIc base 35 (w'.setCell (qQe box t (fun n => (S n).v) tq) s'.v) (if n = tq then s' else S n).v (((addF t x hd tq i).kids n).map (icOf (addF t x hd tq i) (fun n => if n = x then sx else if n = tq then s' else S n))) /\ ∀ b, (if n = tq then s' else S n).v.ownBlock = some b -> (if s'.v.ownBlock = some b then tq else lab b) = n := by
 obtain ⟨r1, r2, r3⟩ := h.replace hw hto hg hO hF hb1 hb2
 have hnk : ∀ n k, k ∈ t.kids n -> k ≠ x := fun n k hk e => hx (e ▸ (hw.has_kid hk).1)
 have hto2 : ∀ k, k ∈ t.kids tq -> k ≠ tq := fun k hk e => by
  obtain ⟨μ, N, F⟩ := hw.falls
  have := F.down _ _ hk
  rw [e] at this
  omega
 intro n hnx hn
 by_cases hnt : n = tq
 · subst hnt
   have e1 : (addF t x hd n i).kids n = (t.kids n).insertIdx i x := by
    show (if n = n then _ else t.kids n) = _
    rw [if_pos rfl]
   rw [e1, qB9 _ hi]
   simp only [if_true]
   have e2 : (t.kids n).map (icOf (addF t x hd n i) (fun m => if m = x then sx else if m = n then s' else S m)) = (t.kids n).map (icOf t S) := List.map_congr_left (fun k hk => by
    unfold icOf addF
    simp only [if_neg (hnk n k hk), if_neg (hto2 k hk)])
   have e3 : icOf (addF t x hd n i) (fun m => if m = x then sx else if m = n then s' else S m) x = ⟨hd, sx.a, sx.n, sx.c⟩ := by
    unfold icOf addF
    simp
   rw [e2, e3]
   exact ⟨r2, fun b hb => if_pos hb⟩
 · obtain ⟨q1, q2⟩ := r1 n hn hnt
   have e1 : (addF t x hd tq i).kids n = t.kids n := by
    show (if n = tq then _ else t.kids n) = _
    rw [if_neg hnt]
   have e2 : (t.kids n).map (icOf (addF t x hd tq i) (fun m => if m = x then sx else if m = tq then s' else S m)) = (t.kids n).map (icOf t (fun m => if m = tq then s' else S m)) := List.map_congr_left (fun k hk => by
    unfold icOf addF
    simp only [if_neg (hnk n k hk)])
   rw [e1, e2]
   simp only [if_neg hnt]
   exact ⟨q1, q2⟩
theorem qYt {x tq : Int} {hd : Hd} {i : Nat} (hi : i <= (t.kids tq).length) {n : Int} (hne : n ≠ x) (hn : Has (addF t x hd tq i) n) : Has t n := by
 unfold Has addF at hn
 simp only [if_neg hne] at hn
 split at hn
 · rename_i e2
   rw [mem_insertIdx hi] at hn
   rcases hn with e3 | hn
   · exact absurd e3 hne
   · unfold Has; rw [e2]; exact hn
 · exact hn
theorem qQg.added (h : qQg base w S lab t) (hw : Wf t) {x tq : Int} {hd : Hd} {i : Nat} (hx : ¬ Has t x) (h0 : 0 <= x) (hto : tq = -1 ∨ Has t tq) (hi : i <= (t.kids tq).length) {s' : Sv} (hg : w.grownBy w' (S tq).v.ownBlock)
 (hO : qQc 8 rdIc base 35 w' s'.v (((t.kids tq).map (icOf t S)).take i ++ [⟨hd, none, 0, 0⟩] ++ ((t.kids tq).map (icOf t S)).drop i)) (hF : qQu w (S tq).v s'.v)
 {box : Addr} (hb1 : box.block < w.heap.size) (hb2 : ∀ n, (n = -1 ∨ Has t n) -> (S n).v.ownBlock ≠ some box.block) :
 qQg base (w'.setCell (qQe box t (fun n => (S n).v) tq) s'.v) (fun n => if n = x then {} else if n = tq then s' else S n) (fun b => if s'.v.ownBlock = some b then tq else lab b) (addF t x hd tq i) := by
 have hput := h.put hw (sx := {}) hx hto hi hg hO hF hb1 hb2
 have hxt : x ≠ tq := by
  rintro rfl
  rcases hto with e | e
  · omega
  · exact hx e
 have hkx : t.kids x = [] := hw.kids_none hx (by omega)
 intro n hn
 by_cases hnx : n = x
 · subst hnx
   have e1 : (addF t n hd tq i).kids n = [] := by
    show (if n = tq then _ else t.kids n) = []
    rw [if_neg hxt, hkx]
   rw [e1]
   simp only [if_true]
   exact ⟨qQc.nil _ _ _, fun b hb => by cases hb⟩
 · have := hput n hnx (hn.imp id (qYt hi hnx))
   simp only [if_neg hnx]
   exact this
theorem qQg.still (h : qQg base w S lab t) (hw : Wf t) {tq : Int} (hto : tq = -1 ∨ Has t tq) {u : Value} (hg : w.grownBy w' (S tq).v.ownBlock) {box : Addr} {b : Nat} (hb : b < w.heap.size) (hbx : b ≠ box.block) (hno : ∀ n, (n = -1 ∨ Has t n) -> (S n).v.ownBlock ≠ some b) :
 (w'.setCell (qQe box t (fun n => (S n).v) tq) u).heap[b]? = w.heap[b]? := by
 have hc : b ≠ (qQe box t (fun n => (S n).v) tq).block := by
  rcases h.cell hw hto box with ⟨_, e⟩ | ⟨hh, g, cap, hS, e⟩
  · rw [e]; exact hbx
  · have hp : t.par tq = -1 ∨ Has t (t.par tq) := hw.kids_has (by intro e; unfold Has at hh; rw [e] at hh; simp at hh)
    rw [e]
    intro e2
    exact hno _ hp (by rw [hS, e2]; rfl)
 rw [Below.heap_setCell w' _ _ b hc]
 exact hg.block b hb (fun e => hno tq hto e.symm)
theorem qGn {α : Type} (f : Int -> α) {l : List Int} {x : Int} (hx : x ∈ l) : (l.erase x).map f = (l.map f).eraseIdx (l.idxOf x) := by
 induction l with
 | nil => simp at hx
 | cons a l ih =>
   by_cases e : a = x
   · subst e
     simp
   · have hx2 : x ∈ l := (List.mem_cons.1 hx).resolve_left (fun h => e h.symm)
     have he : (a == x) = false := by simpa using e
     rw [List.erase_cons, List.idxOf_cons, he]
     simp only [Bool.false_eq_true, if_false, cond_false, List.map_cons, List.eraseIdx_cons_succ]
     rw [ih hx2]
theorem qQg.dropped (h : qQg base w S lab t) (hw : Wf t) {x : Int} (hx : Has t x) {s' : Sv} (hg : w.grownBy w' (S (t.par x)).v.ownBlock)
 (hO : qQc 8 rdIc base 35 w' s'.v (((t.kids (t.par x)).map (icOf t S)).eraseIdx ((t.kids (t.par x)).idxOf x))) (hF : qQu w (S (t.par x)).v s'.v)
 {box : Addr} (hb1 : box.block < w.heap.size) (hb2 : ∀ n, (n = -1 ∨ Has t n) -> (S n).v.ownBlock ≠ some box.block) :
 qQg base (w'.setCell (qQe box t (fun n => (S n).v) (t.par x)) s'.v) (fun n => if n = t.par x then s' else S n) (fun b => if s'.v.ownBlock = some b then t.par x else lab b) (dropF t x) /\
 (∀ n, Reach t.kids x n -> qQc 8 rdIc base 35 (w'.setCell (qQe box t (fun n => (S n).v) (t.par x)) s'.v) (S n).v ((t.kids n).map (icOf t S)) /\ ∀ b, (S n).v.ownBlock = some b -> (if s'.v.ownBlock = some b then t.par x else lab b) = n) := by
 have hto : t.par x = -1 ∨ Has t (t.par x) := hw.kids_has (by intro e; unfold Has at hx; rw [e] at hx; simp at hx)
 obtain ⟨r1, r2, r3⟩ := h.replace hw hto hg hO hF hb1 hb2
 have hnot : ¬ Reach t.kids x (t.par x) := fun e => by
  obtain ⟨μ, N, F⟩ := hw.falls
  have h1 := Reach.le F e
  have h2 := F.down _ _ hx
  omega
 refine ⟨fun n hn => ?_, fun n hr => ?_⟩
 · have hn2 : (n = -1 ∨ Has t n) /\ ¬ Reach t.kids x n := by
    rcases hn with e | hn
    · refine ⟨.inl e, fun hr => ?_⟩
      subst e
      rcases hr.first with e | ⟨k, hk, h2⟩
      · have := Has.ge hw hx; omega
      · rcases hw.reach_up hr (by have := Has.ge hw hx; omega) with ⟨_, h3⟩
        exact hw.no_top h3
    · have := (qQr hw).1 hn
      exact ⟨.inr this.1, this.2⟩
   obtain ⟨hn2, hnr⟩ := hn2
   have ek : (dropF t x).kids n = cutF t x n := by
    unfold dropF
    simp only
    rw [if_neg hnr]
   rw [ek]
   have eic : icOf (dropF t x) = icOf t := rfl
   rw [eic]
   by_cases hnp : n = t.par x
   · subst hnp
     have e1 : cutF t x (t.par x) = (t.kids (t.par x)).erase x := by unfold cutF; rw [if_pos rfl]
     rw [e1]
     have e2 : ((t.kids (t.par x)).erase x).map (icOf t (fun n => if n = t.par x then s' else S n)) = ((t.kids (t.par x)).map (icOf t S)).eraseIdx ((t.kids (t.par x)).idxOf x) := by
      rw [<- qGn _ hx]
      refine List.map_congr_left (fun k hk => ?_)
      have hk2 := List.mem_of_mem_erase hk
      have : k ≠ t.par x := fun e => by
       obtain ⟨μ, N, F⟩ := hw.falls
       have := F.down _ _ hk2
       rw [e] at this
       omega
      unfold icOf
      simp only [if_neg this]
     rw [e2]
     simp only [if_true]
     exact ⟨r2, fun b hb => if_pos hb⟩
   · obtain ⟨q1, q2⟩ := r1 n hn2 hnp
     have e1 : cutF t x n = t.kids n := by unfold cutF; rw [if_neg hnp]
     rw [e1]
     simp only [if_neg hnp]
     exact ⟨q1, q2⟩
 · have hn : n = -1 ∨ Has t n := by
    by_cases e : n = x
    · right; rw [e]; exact hx
    · exact .inr (hw.reach_up hr e).2
   have hnp : n ≠ t.par x := fun e => hnot (e ▸ hr)
   obtain ⟨q1, q2⟩ := r1 n hn hnp
   have e2 : (t.kids n).map (icOf t (fun n => if n = t.par x then s' else S n)) = (t.kids n).map (icOf t S) := List.map_congr_left (fun k hk => by
    have : k ≠ t.par x := fun e => hnot (e ▸ .step hr hk)
    unfold icOf
    simp only [if_neg this])
   rw [e2] at q1
   exact ⟨q1, q2⟩
theorem qXs (_h : Wf t) {x n : Int} (hr : ¬ Reach t.kids x n) : (dropF t x).kids n = cutF t x n := by
 unfold dropF
 simp only
 rw [if_neg hr]
theorem qQg.moved (hw : Wf t) {x tq : Int} {i : Nat} (hx : Has t x) (hto : tq = -1 ∨ Has t tq) (hl : ¬ Reach t.kids x tq) (hi : i <= (cutF t x tq).length)
 (h : qQg base w S lab (dropF t x)) (hext : ∀ n, Reach t.kids x n -> qQc 8 rdIc base 35 w (S n).v ((t.kids n).map (icOf t S)) /\ ∀ b, (S n).v.ownBlock = some b -> lab b = n) {s' : Sv} (hg : w.grownBy w' (S tq).v.ownBlock)
 (hO : qQc 8 rdIc base 35 w' s'.v ((((dropF t x).kids tq).map (icOf t S)).take i ++ [⟨t.head x, (S x).a, (S x).n, (S x).c⟩] ++ (((dropF t x).kids tq).map (icOf t S)).drop i)) (hF : qQu w (S tq).v s'.v)
 {box : Addr} (hb1 : box.block < w.heap.size) (hb2 : ∀ n, (n = -1 ∨ Has t n) -> (S n).v.ownBlock ≠ some box.block) :
 qQg base (w'.setCell (qQe box (dropF t x) (fun n => (S n).v) tq) s'.v) (fun n => if n = tq then s' else S n) (fun b => if s'.v.ownBlock = some b then tq else lab b) (qQ7 t x tq i) := by
 have hw0 := qJ7 hw x
 have h0 := Has.ge hw hx
 have hsub : ∀ n, (n = -1 ∨ Has (dropF t x) n) -> (n = -1 ∨ Has t n) := fun n hn => hn.imp id (qZ3 hw)
 have hx0 : ¬ Has (dropF t x) x := fun e => ((qQr hw).1 e).2 .here
 have htop : ¬ Reach t.kids x (-1) := fun e => by
  have := hw.reach_up e (by omega)
  exact hw.no_top this.2
 have hto0 : tq = -1 ∨ Has (dropF t x) tq := by
  rcases hto with e | e
  · exact .inl e
  · exact .inr ((qQr hw).2 ⟨e, hl⟩)
 have hkto := qXs hw hl
 have hpx : t.par x = -1 ∨ Has t (t.par x) := hw.kids_has (by intro e; unfold Has at hx; rw [e] at hx; simp at hx)
 have hnot : ¬ Reach t.kids x (t.par x) := fun e => by
  obtain ⟨μ, N, F⟩ := hw.falls
  have h1 := Reach.le F e
  have h2 := F.down _ _ hx
  omega
 have hxto : x ≠ tq := fun e => hl (e ▸ .here)
 have hi0 : i <= ((dropF t x).kids tq).length := by rw [hkto]; exact hi
 have hput := h.put hw0 (hd := t.head x) (sx := S x) hx0 hto0 hi0 hg hO hF hb1 (fun n hn => hb2 n (hsub n hn))
 intro n hn
 have hn : n = -1 ∨ Has t n := by
  rcases hn with e | hn
  · exact .inl e
  · right
    by_cases e : n = x
    · rw [e]; exact hx
    · unfold Has qQ7 at hn
      simp only [if_neg e] at hn
      split at hn
      · rename_i e2
        rw [mem_insertIdx hi] at hn
        rcases hn with e3 | hn
        · exact absurd e3 e
        · have := ((qZ5 hw).1 hn).1
          unfold Has; rw [e2]; exact this
      · exact ((qZ5 hw).1 hn).1
 by_cases hr : Reach t.kids x n
 ·
  have hnto : n ≠ tq := fun e => hl (e ▸ hr)
  have hnp : n ≠ t.par x := fun e => hnot (e ▸ hr)
  obtain ⟨q1, q2⟩ := hext n hr
  have ek : (qQ7 t x tq i).kids n = t.kids n := by
   show (if n = tq then _ else cutF t x n) = _
   rw [if_neg hnto]
   unfold cutF
   rw [if_neg hnp]
  have eic : (t.kids n).map (icOf (qQ7 t x tq i) (fun n => if n = tq then s' else S n)) = (t.kids n).map (icOf t S) := List.map_congr_left (fun k hk => by
   have : k ≠ tq := fun e => hl (e ▸ .step hr hk)
   unfold icOf qQ7
   simp only [if_neg this])
  rw [ek, eic]
  simp only [if_neg hnto]
  have hapart : ∀ b, (S n).v.ownBlock = some b -> ∀ m, (m = -1 ∨ Has (dropF t x) m) -> (S m).v.ownBlock ≠ some b := fun b hb m hm e => by
   have h1 := q2 b hb
   have h2 := h.owner hm e
   rw [h1] at h2
   subst h2
   rcases hm with e | hm
   · subst e; exact htop hr
   · exact ((qQr hw).1 hm).2 hr
  refine ⟨q1.agree (fun b hb => h.still hw0 hto0 hg (q1.lt b hb).2 (fun e => hb2 n hn (by rw [hb, e])) (hapart b hb)) (fun _ _ _ hr => hr), fun b hb => ?_⟩
  rw [if_neg, q2 b hb]
  intro e
  rcases hF with e2 | ⟨k, e2, hk⟩
  · exact hapart b hb tq hto0 (e2 ▸ e)
  · rw [e2] at e
    cases e
    have := (q1.lt b hb).2
    omega
 · have hnx : n ≠ x := fun e => hr (e ▸ .here)
   have hn0 : n = -1 ∨ Has (dropF t x) n := by
    rcases hn with e | e
    · exact .inl e
    · exact .inr ((qQr hw).2 ⟨e, hr⟩)
   have := hput n hnx hn0
   have ek : (addF (dropF t x) x (t.head x) tq i).kids n = (qQ7 t x tq i).kids n := by
    show (if n = tq then ((dropF t x).kids tq).insertIdx i x else (dropF t x).kids n) = (if n = tq then (cutF t x tq).insertIdx i x else cutF t x n)
    rw [hkto, qXs hw hr]
   have eic : ((qQ7 t x tq i).kids n).map (icOf (addF (dropF t x) x (t.head x) tq i) (fun n => if n = x then S x else if n = tq then s' else S n)) = ((qQ7 t x tq i).kids n).map (icOf (qQ7 t x tq i) (fun n => if n = tq then s' else S n)) := List.map_congr_left (fun k hk => by
    unfold icOf addF qQ7 dropF
    simp only
    by_cases e : k = x
    · subst e
      simp only [if_true, if_neg hxto]
    · simp only [if_neg e])
   rw [ek, eic] at this
   exact this
end
end Go.Proofs.Ytklbmkaomojciaa
