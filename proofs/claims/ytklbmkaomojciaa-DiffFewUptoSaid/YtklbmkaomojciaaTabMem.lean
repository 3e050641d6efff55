/- A tree of the call's own, list by list. -/
import Derived.Test.YtklbmkaomojciaaSlIts
import Derived.Test.YtklbmkaomojciaaDiffFind
namespace Go.Proofs.Ytklbmkaomojciaa
open Go.RowKit
structure Sv where
 a : Option Addr := none
 n : Nat := 0
 c : Nat := 0
def Sv.v (s : Sv) : Value := .slice s.a s.n s.c
def icOf (t : Fl) (S : Int -> Sv) (k : Int) : Ic := ⟨t.head k, (S k).a, (S k).n, (S k).c⟩
def qQg (base : Nat) (w : World) (S : Int -> Sv) (lab : Nat -> Int) (t : Fl) : Prop :=
 ∀ n, (n = -1 ∨ Has t n) -> qQc 8 rdIc base 35 w (S n).v ((t.kids n).map (icOf t S)) /\ ∀ b, (S n).v.ownBlock = some b -> lab b = n
theorem qQc.conv {α β : Type} {sz : Nat} {rd : World -> List Value -> α -> Prop} {rd' : World -> List Value -> β -> Prop} {base : Nat} {e : TypeId} {w : World} {v : Value} {l : List α} {l' : List β} (h : qQc sz rd base e w v l) (hl : l.length = l'.length)
 (hr : ∀ i (h1 : i < l.length) (h2 : i < l'.length) cs, rd w cs l[i] -> rd' w cs l'[i]) : qQc sz rd' base e w v l' := by
 obtain ⟨xss, h1, h2, h3⟩ := h
 exact ⟨xss, h1.trans hl, fun i hi hi' => ⟨(h2 i (by omega) hi').1, hr i (by omega) hi _ (h2 i (by omega) hi').2⟩, hl ▸ h3⟩
theorem qQg.rd {base : Nat} {w : World} {S : Int -> Sv} {lab : Nat -> Int} {t : Fl} (h : qQg base w S lab t) : qJa (fun b => base <= b /\ b < w.heap.size) w (fun n => (S n).v) t := fun n hn => by
 refine (h n hn).1.row.conv (by simp) (fun i h1 h2 b cs _ hb hr => ⟨⟨hb.1, hb.2.1⟩, ?_⟩)
 rw [List.getElem_map] at hr
 exact hr
theorem qVf {α : Type} {sz base : Nat} {e : TypeId} {rd : World -> List Value -> α -> Prop} {w : World} {v : Value} {l : List α} (h : qQc sz rd base e w v l) : ∃ s : Sv, s.v = v := by
 obtain ⟨a, c, rfl, _, _⟩ := qQa.form h.read
 exact ⟨⟨a, l.length, c⟩, rfl⟩
def qYo (base : Nat) (w : World) (hd : Int -> Hd) (S : Int -> Sv) (lab : Nat -> Int) (B : List Nat) (R : List (Int × List Int)) : Prop :=
 ∀ r ∈ R, qQc 8 rdIc base 35 w (S r.1).v (r.2.map (fun k => (⟨hd k, (S k).a, (S k).n, (S k).c⟩ : Ic))) /\ ∀ b, (S r.1).v.ownBlock = some b -> lab b = r.1 /\ b ∈ B
theorem qZc (l : List It) : ∀ r ∈ rowsK l, r.1 ∈ nodesL l /\ ∀ k ∈ r.2, k ∈ nodesL l := fun r hr => by
 refine ⟨by rw [<- qQt.2]; exact List.mem_map_of_mem hr, fun k hk => ?_⟩
 exact (qZh.2 l).subset (List.mem_append_right _ (List.mem_flatMap.2 ⟨r, hr, hk⟩))
theorem qJw (x : It) : ∀ r ∈ rowsI x, r.1 ∈ nodesI x /\ ∀ k ∈ r.2, k ∈ nodesI x := fun r hr => by
 refine ⟨by rw [<- qQt.1]; exact List.mem_map_of_mem hr, fun k hk => ?_⟩
 exact (qZh.1 x).subset (List.mem_cons_of_mem _ (List.mem_flatMap.2 ⟨r, hr, hk⟩))
theorem qYo.swap {base : Nat} {w : World} {hd : Int -> Hd} {S S' : Int -> Sv} {lab lab' : Nat -> Int} {B B' : List Nat} {R : List (Int × List Int)} (h : qYo base w hd S lab B R) (hS : ∀ r ∈ R, S' r.1 = S r.1 /\ ∀ k ∈ r.2, S' k = S k) (hl : ∀ b ∈ B, lab' b = lab b) (hB : ∀ b ∈ B, b ∈ B') : qYo base w hd S' lab' B' R := fun r hr => by
 obtain ⟨h1, h2⟩ := h r hr
 obtain ⟨s1, s2⟩ := hS r hr
 rw [s1]
 have e : r.2.map (fun k => (⟨hd k, (S' k).a, (S' k).n, (S' k).c⟩ : Ic)) = r.2.map (fun k => (⟨hd k, (S k).a, (S k).n, (S k).c⟩ : Ic)) := List.map_congr_left (fun k hk => by rw [s2 k hk])
 rw [e]
 exact ⟨h1, fun b hb => ⟨(hl b (h2 b hb).2).trans (h2 b hb).1, hB b (h2 b hb).2⟩⟩
open Classical in
theorem tab_rows (base : Nat) (w : World) (hd : Int -> Hd) :
 (∀ x : It, ∀ (k : Nat) (v : Value) (B : List Nat), OwnT base k w v x.kids B -> (nodesI x).Nodup -> (∀ h ∈ headsI x, hd h.node = h) -> ∃ S lab, (S x.h.node).v = v /\ qYo base w hd S lab B (rowsI x)) /\
 ∀ l : List It, ∀ (k : Nat) (vs : List Value) (Bs : List (List Nat)), vs.length = l.length -> Bs.length = l.length -> (∀ i (h1 : i < l.length) (h2 : i < vs.length) (h3 : i < Bs.length), OwnT base k w vs[i] l[i].kids Bs[i]) -> Bs.flatten.Nodup -> (nodesL l).Nodup -> (∀ h ∈ headsL l, hd h.node = h) ->
  ∃ S lab, (∀ i (h1 : i < l.length) (h2 : i < vs.length), (S l[i].h.node).v = vs[i]) /\ qYo base w hd S lab Bs.flatten (rowsK l) := by
 refine qJg ?_ ?_ ?_
 · intro h ks ih k v B hO hn hh
   obtain ⟨Ss, g1, g2, g3, g4⟩ := hO
   obtain ⟨sv, hsv⟩ := qVf g2
   rw [nodesI, List.nodup_cons] at hn
   rw [headsI] at hh
   simp only [It.kids] at g1 g2
   obtain ⟨xss, q1, q2, q3⟩ := g2
   have hzl : (ks.zip Ss).length = ks.length := by simp; omega
   have hex : ∀ i, i < ks.length -> ∃ v' : Value, ∀ (h1 : i < ks.length) (h2 : i < Ss.length) (h3 : i < xss.length), xss[i] = qQd ks[i].h v' /\ OwnT base (k - 1) w v' ks[i].kids Ss[i] := fun i h1 => by
    have hz : i < (ks.zip Ss).length := by omega
    have hr := (q2 i hz (by omega)).2
    rw [List.getElem_zip] at hr
    cases k with
    | zero => exact hr.elim
    | succ k =>
      obtain ⟨v', Ss', r0, r1, r2, r3, r4⟩ := hr
      exact ⟨v', fun _ _ _ => ⟨r0, Ss', r1, r2, r3, r4⟩⟩
   obtain ⟨vf, hvf⟩ : ∃ vf : Nat -> Value, ∀ i (h1 : i < ks.length) (h2 : i < Ss.length) (h3 : i < xss.length), xss[i] = qQd ks[i].h (vf i) /\ OwnT base (k - 1) w (vf i) ks[i].kids Ss[i] := by
    refine ⟨fun i => if h : i < ks.length then (hex i h).choose else .int .i64 0, fun i h1 h2 h3 => ?_⟩
    simp only [dif_pos h1]
    exact (hex i h1).choose_spec h1 h2 h3
   have hBf : Ss.flatten.Nodup := by
    rw [g3] at g4
    exact (List.nodup_append.1 g4).2.1
   obtain ⟨S2, lab2, p1, p2⟩ := ih (k - 1) ((List.range ks.length).map vf) Ss (by simp) g1 (fun i a b c => by
    rw [List.getElem_map, List.getElem_range]
    exact (hvf i a c (by omega)).2) hBf hn.2 (fun y hy => hh y (List.mem_cons_of_mem _ hy))
   have hnode : ∀ i (h1 : i < ks.length), ks[i].h.node ∈ nodesL ks := fun i h1 => by
    rw [qQl]
    exact List.mem_flatMap.2 ⟨ks[i], List.getElem_mem h1, by rw [qQm]; exact List.mem_cons_self⟩
   have hlabB : ∀ b ∈ Ss.flatten, v.ownBlock ≠ some b := fun b hb e => by
    rw [g3, e] at g4
    have g5 : (b :: Ss.flatten).Nodup := g4
    exact (List.nodup_cons.1 g5).1 hb
   have hrest : qYo base w hd (fun n => if n = h.node then sv else S2 n) (fun b => if v.ownBlock = some b then h.node else lab2 b) B (rowsK ks) :=
    p2.swap (fun r hr => ⟨if_neg (fun (e : r.1 = h.node) => hn.1 (e ▸ (qZc ks r hr).1)), fun k hk => if_neg (fun (e : k = h.node) => hn.1 (e ▸ (qZc ks r hr).2 k hk))⟩) (fun b hb => if_neg (hlabB b hb)) (fun b hb => by rw [g3]; exact List.mem_append_right _ hb)
   refine ⟨fun n => if n = h.node then sv else S2 n, fun b => if v.ownBlock = some b then h.node else lab2 b, ?_, fun r hr => ?_⟩
   · show (if h.node = h.node then sv else S2 h.node).v = v
     rw [if_pos rfl]
     exact hsv
   · rw [rowsI] at hr
     rcases List.mem_cons.1 hr with rfl | hr
     · show qQc 8 rdIc base _ w (if h.node = h.node then sv else S2 h.node).v _ /\ ∀ b, (if h.node = h.node then sv else S2 h.node).v.ownBlock = some b -> (if v.ownBlock = some b then h.node else lab2 b) = h.node /\ b ∈ B
       rw [if_pos rfl, hsv]
       refine ⟨⟨xss, by rw [q1, hzl]; simp, fun i hi hi' => ⟨(q2 i (by rw [hzl]; simpa using hi) hi').1, ?_⟩, by simpa [hzl] using q3⟩, fun b hb => ⟨if_pos hb, by rw [g3, hb]; simp⟩⟩
       have hik : i < ks.length := by simpa using hi
       obtain ⟨r1, r2⟩ := hvf i hik (by omega) hi'
       have hne : ks[i].h.node ≠ h.node := fun e => hn.1 (e ▸ hnode i hik)
       have hp := p1 i hik (by simpa using hik)
       rw [List.getElem_map, List.getElem_range] at hp
       rw [r1, List.getElem_map, List.getElem_map]
       have hhd : hd ks[i].h.node = ks[i].h := hh _ (List.mem_cons_of_mem _ (by
        rw [qZz]
        exact List.mem_flatMap.2 ⟨ks[i], List.getElem_mem hik, by rw [qVj]; exact List.mem_cons_self⟩))
       show qQd ks[i].h (vf i) = qQd (hd ks[i].h.node) (.slice (if ks[i].h.node = h.node then sv else S2 ks[i].h.node).a (if ks[i].h.node = h.node then sv else S2 ks[i].h.node).n (if ks[i].h.node = h.node then sv else S2 ks[i].h.node).c)
       rw [hhd, if_neg hne, <- hp]
       rfl
     · exact hrest r hr
 · intro k vs Bs h1 h2 _ _ _ _
   exact ⟨fun _ => {}, fun _ => 0, fun i hi => by simp at hi, fun r hr => by simp [rowsK] at hr⟩
 · intro x l hx hl k vs Bs h1 h2 hO hBn hn hh
   obtain ⟨v, vs, rfl⟩ : ∃ v vs', vs = v :: vs' := by
    cases vs with
    | nil => simp at h1
    | cons v vs => exact ⟨v, vs, rfl⟩
   obtain ⟨B, Bs, rfl⟩ : ∃ v vs', Bs = v :: vs' := by
    cases Bs with
    | nil => simp at h2
    | cons v vs => exact ⟨v, vs, rfl⟩
   rw [nodesL] at hn
   rw [headsL] at hh
   rw [List.flatten_cons] at hBn
   obtain ⟨n1, n2, n3⟩ := List.nodup_append.1 hn
   obtain ⟨b1, b2, b3⟩ := List.nodup_append.1 hBn
   obtain ⟨S1, lab1, p1, p2⟩ := hx k v B (hO 0 (by simp) (by simp) (by simp)) n1 (fun h hh1 => hh h (List.mem_append_left _ hh1))
   obtain ⟨S2, lab2, q1, q2⟩ := hl k vs Bs (by simpa using h1) (by simpa using h2) (fun i a b c => hO (i + 1) (by simp; omega) (by simp; omega) (by simp; omega)) b2 n2 (fun h hh1 => hh h (List.mem_append_right _ hh1))
   refine ⟨fun n => if n ∈ nodesI x then S1 n else S2 n, fun b => if b ∈ B then lab1 b else lab2 b, fun i hi hi' => ?_, fun r hr => ?_⟩
   · cases i with
     | zero =>
       have : x.h.node ∈ nodesI x := by rw [qQm]; exact List.mem_cons_self
       simp only [List.getElem_cons_zero, if_pos this]
       exact p1
     | succ i =>
       have hi2 : i < l.length := by simpa using hi
       have hm : l[i].h.node ∈ nodesL l := by
        rw [qQl]
        exact List.mem_flatMap.2 ⟨l[i], List.getElem_mem hi2, by rw [qQm]; exact List.mem_cons_self⟩
       have : l[i].h.node ∉ nodesI x := fun h => n3 _ h _ hm rfl
       simp only [List.getElem_cons_succ, if_neg this]
       exact q1 i hi2 (by simpa using hi')
   · rw [rowsK] at hr
     rcases List.mem_append.1 hr with hr | hr
     · exact (p2.swap (R := rowsI x) (S' := fun n => if n ∈ nodesI x then S1 n else S2 n) (lab' := fun b => if b ∈ B then lab1 b else lab2 b) (B' := (B :: Bs).flatten) (fun r hr => ⟨if_pos (qJw x r hr).1, fun k hk => if_pos ((qJw x r hr).2 k hk)⟩) (fun b hb => if_pos hb) (fun b hb => by rw [List.flatten_cons]; exact List.mem_append_left _ hb)) r hr
     · exact (q2.swap (R := rowsK l) (S' := fun n => if n ∈ nodesI x then S1 n else S2 n) (lab' := fun b => if b ∈ B then lab1 b else lab2 b) (B' := (B :: Bs).flatten) (fun r hr => ⟨if_neg (fun h => n3 _ h _ (qZc l r hr).1 rfl), fun k hk => if_neg (fun h => n3 _ h _ ((qZc l r hr).2 k hk) rfl)⟩) (fun b hb => if_neg (fun h => b3 _ h _ hb rfl)) (fun b hb => by rw [List.flatten_cons]; exact List.mem_append_right _ hb)) r hr
end Go.Proofs.Ytklbmkaomojciaa
