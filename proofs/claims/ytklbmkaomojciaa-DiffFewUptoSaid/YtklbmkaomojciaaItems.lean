/- Items: trees as plain lists, how they lie in memory, and the functions that only read them. -/
import Derived.Test.YtklbmkaomojciaaRefDoc
import Derived.Test.YtklbmkaomojciaaBlk
import Derived.Test.YtklbmkaomojciaaStepCall
import Derived.Deep.RegionLaw
import Derived.Deep.Cut
import Derived.RegionTactic
set_option maxRecDepth 100000
set_option maxHeartbeats 2000000
namespace Go.Proofs.Ytklbmkaomojciaa
structure Hd where
 node : Int := 0
 role : Int := 0
 name : Txt := []
 about : Txt := []
 level : Int := 0
 checked : Int := 0
 off : Bool := false
 deriving DecidableEq
inductive It where
 | mk (h : Hd) (kids : List It)
def It.h : It -> Hd
 | .mk h _ => h
def It.kids : It -> List It
 | .mk _ k => k
mutual
def nodesI : It -> List Int
 | .mk h k => h.node :: nodesL k
def nodesL : List It -> List Int
 | [] => []
 | x :: l => nodesI x ++ nodesL l
end
theorem qQl : ∀ l : List It, nodesL l = l.flatMap nodesI
 | [] => rfl
 | x :: l => by rw [nodesL, List.flatMap_cons, qQl l]
theorem qQm (x : It) : nodesI x = x.h.node :: nodesL x.kids := by cases x; rfl
theorem qWr (l : List It) (x : It) : nodesL (l ++ [x]) = nodesL l ++ (x.h.node :: nodesL x.kids) := by
 rw [qQl, qQl, List.flatMap_append, List.flatMap_cons, List.flatMap_nil, List.append_nil, qQm]
theorem qJ9 {l : List It} {j : Nat} (hj : j < l.length) : nodesL (l.take (j + 1)) = nodesL (l.take j) ++ (l[j].h.node :: nodesL l[j].kids) := by
 rw [List.take_succ_eq_append_getElem hj, qWr]
theorem qJb (l : List It) : l.length <= (nodesL l).length := by
 induction l with
 | nil => simp
 | cons x l ih =>
   rw [nodesL, qQm]
   simp
   omega
theorem qJs {l : List It} {j : Nat} (hj : j < l.length) : (nodesL (l.take j)).length + 1 + (nodesL l[j].kids).length <= (nodesL l).length := by
 have h1 : nodesL l = nodesL (l.take (j + 1)) ++ nodesL (l.drop (j + 1)) := by
  rw [qQl, qQl, qQl, <- List.flatMap_append, List.take_append_drop]
 rw [h1, qJ9 hj]
 simp
 omega
end Go.Proofs.Ytklbmkaomojciaa
namespace Go.Proofs.Ytklbmkaomojciaa
open Go.RowKit
def qQd (h : Hd) (v : Value) : List Value := [.int .i64 h.node, .int .i64 h.role, .string ⟨h.name.toArray⟩, .string ⟨h.about.toArray⟩, .int .i64 h.level, .int .i64 h.checked, .bool h.off, v]
def rdIt (B : Nat -> Prop) : Nat -> World -> List Value -> It -> Prop
 | 0, _, _, _ => False
 | k + 1, w, cs, x => ∃ v, cs = qQd x.h v /\ qQa 8 (rdIt B k) B w v x.kids
abbrev ItsK (B : Nat -> Prop) (k : Nat) : World -> Value -> List It -> Prop := qQa 8 (rdIt B k) B
theorem rdIt.agree {B : Nat -> Prop} {w w' : World} (ha : qQ2 B w w') : ∀ {k : Nat} {cs : List Value} {x : It}, rdIt B k w cs x -> rdIt B k w' cs x := by
 intro k
 induction k with
 | zero => intro cs x h; exact h.elim
 | succ k ih =>
   intro cs x h
   obtain ⟨v, h1, h2⟩ := h
   exact ⟨v, h1, h2.agree ha (fun cs x _ hr => ih hr)⟩
theorem rdIt.mono {B C : Nat -> Prop} {w : World} (hc : ∀ b, B b -> C b) : ∀ {k : Nat} {cs : List Value} {x : It}, rdIt B k w cs x -> rdIt C k w cs x := by
 intro k
 induction k with
 | zero => intro cs x h; exact h.elim
 | succ k ih =>
   intro cs x h
   obtain ⟨v, h1, h2⟩ := h
   exact ⟨v, h1, h2.mono hc (fun cs x _ hr => ih hr)⟩
theorem ItsK.agree {B : Nat -> Prop} {k : Nat} {w w' : World} {v : Value} {l : List It} (h : ItsK B k w v l) (ha : qQ2 B w w') : ItsK B k w' v l := qQa.agree h ha (fun _ _ _ hr => hr.agree ha)
theorem ItsK.mono {B C : Nat -> Prop} {k : Nat} {w : World} {v : Value} {l : List It} (h : ItsK B k w v l) (hc : ∀ b, B b -> C b) : ItsK C k w v l := qQa.mono h hc (fun _ _ _ hr => hr.mono hc)
theorem rdIt.more {B : Nat -> Prop} {w : World} : ∀ {k : Nat} {cs : List Value} {x : It}, rdIt B k w cs x -> rdIt B (k + 1) w cs x := by
 intro k
 induction k with
 | zero => intro cs x h; exact h.elim
 | succ k ih =>
   intro cs x h
   obtain ⟨v, h1, h2⟩ := h
   exact ⟨v, h1, h2.mono (fun _ h => h) (fun cs x _ hr => ih hr)⟩
theorem rdIt.le {B : Nat -> Prop} {w : World} {k k' : Nat} (hk : k <= k') {cs : List Value} {x : It} (h : rdIt B k w cs x) : rdIt B k' w cs x := by
 induction hk with
 | refl => exact h
 | step _ ih => exact ih.more
theorem ItsK.le {B : Nat -> Prop} {w : World} {k k' : Nat} (hk : k <= k') {v : Value} {l : List It} (h : ItsK B k w v l) : ItsK B k' w v l := qQa.mono h (fun _ h => h) (fun _ _ _ hr => hr.le hk)
theorem ItsK.later {n m k : Nat} {w w' : World} {v : Value} {l : List It} (h : ItsK (· < n) k w v l) (hb : Below m w w') (hn : n <= m) : ItsK (· < n) k w' v l :=
 h.agree (qQ2.mono (qQ2.below hb) (fun _ hb => Nat.lt_of_lt_of_le hb hn))
theorem ItsK.raise {n m k : Nat} {w : World} {v : Value} {l : List It} (h : ItsK (· < n) k w v l) (hn : n <= m) : ItsK (· < m) k w v l := h.mono (fun _ h => Nat.lt_of_lt_of_le h hn)
theorem ItsK.up {m k : Nat} {w w' : World} {v : Value} {l : List It} (h : ItsK (· < m) k w v l) (hb : Bel w w') (hm : m <= w.heap.size) : ItsK (· < w'.heap.size) k w' v l := (h.later hb hm).raise (Nat.le_trans hm hb.size)
structure ItC (B : Nat -> Prop) (k : Nat) (w : World) (b o : Nat) (x : It) (kv : Value) : Prop where
 node : w.cell? ⟨b, o, none⟩ = some (.int .i64 x.h.node)
 role : w.cell? ⟨b, o + 1, none⟩ = some (.int .i64 x.h.role)
 name : w.cell? ⟨b, o + 2, none⟩ = some (.string ⟨x.h.name.toArray⟩)
 about : w.cell? ⟨b, o + 3, none⟩ = some (.string ⟨x.h.about.toArray⟩)
 level : w.cell? ⟨b, o + 4, none⟩ = some (.int .i64 x.h.level)
 checked : w.cell? ⟨b, o + 5, none⟩ = some (.int .i64 x.h.checked)
 off : w.cell? ⟨b, o + 6, none⟩ = some (.bool x.h.off)
 kids : w.cell? ⟨b, o + 7, none⟩ = some kv
 kidsAt : ItsK B k w kv x.kids
theorem ItsK.item {B : Nat -> Prop} {k : Nat} {w : World} {v : Value} {l : List It} (h : ItsK B k w v l) (i : Nat) (hi : i < l.length) :
 ∃ b off cap kv k', k = k' + 1 /\ v = .slice (some ⟨b, off, none⟩) l.length cap /\ l.length <= cap /\ cap <= 9223372036854775807 /\ B b /\ ItC B k' w b (off + i * 8) l[i] kv := by
 obtain ⟨a, cap0, e0, e1, e2⟩ := qQa.form h
 obtain ⟨b, off, cap, cs, h1, h2, h3, h4, h5⟩ := qQa.elem h i hi
 rw [h1] at e0
 simp at e0
 obtain ⟨_, rfl⟩ := e0
 cases k with
 | zero => exact h5.elim
 | succ k =>
   obtain ⟨kv, rfl, h6⟩ := h5
   exact ⟨b, off, cap, kv, k, rfl, h1, e1, e2, h2, by simpa using h4 0 _ rfl, h4 1 _ rfl, h4 2 _ rfl, h4 3 _ rfl, h4 4 _ rfl, h4 5 _ rfl, h4 6 _ rfl, h4 7 _ rfl, h6⟩
theorem qZg : SlT Try.prog 22 35 8 96 := by
 refine ⟨by kernel_rfl, ?_⟩
 obtain ⟨i, h1, h2, h3, h4⟩ := info_parts (by kernel_rfl : (Try.prog.info? 35).map (fun i => (i.zero, i.size, i.bytes)) = some (some (.agg #[.int .i64 0, .int .i64 0, .string ⟨#[]⟩, .string ⟨#[]⟩, .int .i64 0, .int .i64 0, .bool false, .slice none 0 0]), 8, 96))
 exact ⟨i, _, h1, h2, h3, h4, rfl⟩
theorem qJ6 : ∀ (k n : Nat) (v : Value) (l : List It) (w : World), ItsK (· < n) k w v l -> n <= w.heap.size -> (nodesL l).length <= 1000000000 ->
 Calls Try.prog 13 #[v] w (Rn w fun w' y => qQc 1 qQ6 w.heap.size 3 w' y (nodesL l)) := by
 intro k
 induction k using Nat.strongRecOn with
 | ind k ih =>
 intro n v l w hv hn hL
 obtain ⟨va, vc, rfl, v1, v2⟩ := qQa.form hv
 have HV := lH hv
 have HIH := lH ih
 clear hv ih
 go_enter Try.func13, Try.ntmps13
 go_wp2
 go_loopw [8, 3] (fun z o wr => ∃ (j : Nat) (O : List Int), j <= l.length /\ z = .int .i64 j /\ O = nodesL (l.take j) /\ qQc 1 qQ6 w.heap.size 3 wr o O /\ Bel w wr) (fun z _ _ => l.length - (intOf z).toNat)
 case atStart => exact ⟨0, [], by omega, rfl, rfl, qQc.nil _ _ _, Bel.refl _⟩
 case round =>
  obtain ⟨j, O, hj, rfl, hP, hO, hB⟩ := hrel
  have HO := lH hO
  have HP := lH hP
  have HB := lH hB
  have hR := HV.out.later hB hn
  obtain ⟨oa, oc, rfl, o1, o2⟩ := qQa.form hO.read
  clear hO hP hB
  by_cases hlt : j < l.length
  · have hltz : (j : Int) < (l.length : Int) := by omega
    obtain ⟨b, off, cap, kv, k', rfl, e1, -, -, hb, hI⟩ := HV.out.item j hlt
    simp at e1
    obtain ⟨rfl, rfl⟩ := e1
    have hbw : b < w.heap.size := by omega
    have c0 := (Bel.cells HB.out b _ hbw).trans hI.node
    have c1 := (Bel.cells HB.out b _ hbw).trans hI.role
    have c2 := (Bel.cells HB.out b _ hbw).trans hI.name
    have c3 := (Bel.cells HB.out b _ hbw).trans hI.about
    have c4 := (Bel.cells HB.out b _ hbw).trans hI.level
    have c5 := (Bel.cells HB.out b _ hbw).trans hI.checked
    have c6 := (Bel.cells HB.out b _ hbw).trans hI.off
    have c7 := (Bel.cells HB.out b _ hbw).trans hI.kids
    have hTk := qJ9 hlt
    have hLe := qJs hlt
    have S0 := HB.out.size
    obtain ⟨xa, xc, rfl, x1, x2⟩ := qQa.form hI.kidsAt
    have HC : Hid (∀ W, Bel w W -> Calls Try.prog 13 #[.slice xa l[j].kids.length xc] W (Rn W fun w' y => qQc 1 qQ6 W.heap.size 3 w' y (nodesL l[j].kids))) := lH (fun W h => HIH.out k' (by omega) n _ _ W (hI.kidsAt.later h hn) (Nat.le_trans hn h.size) (by omega))
    have hOl : O.length = (nodesL (l.take j)).length := congrArg List.length HP.out
    have HT : Hid (nodesL (l.take (j + 1)) = O ++ [l[j].h.node] ++ nodesL l[j].kids) := lH (by rw [hTk, HP.out]; simp)
    clear hTk hI hR
    generalize l[j] = X at *
    obtain ⟨⟨xn, xr, xm, xb, xl, xk, xo⟩, ks⟩ := X
    simp only [It.h, It.kids] at c0 c1 c2 c3 c4 c5 c6 c7 HC HT hLe
    generalize nodesL ks = NK at *
    clear HP
    have hN : Blk (wr.alloc (.cells #[.int .i64 xn, .int .i64 xr, .string ⟨xm.toArray⟩, .string ⟨xb.toArray⟩, .int .i64 xl, .int .i64 xk, .bool xo, .slice xa ks.length xc] 35)) wr.heap.size _ 35 := Blk.new' wr wr.heap.size rfl _ _
    have hNb : Bel wr (wr.alloc (.cells #[.int .i64 xn, .int .i64 xr, .string ⟨xm.toArray⟩, .string ⟨xb.toArray⟩, .int .i64 xl, .int .i64 xk, .bool xo, .slice xa ks.length xc] 35)) := (Bel.refl wr).alloc _
    have HN := lH hN
    have HNB := lH hNb
    have hob := fun b hb => (HO.out.lt b hb).2
    have HOB := lH hob
    clear hN hNb hob
    go_wp2_with (first
 | (at_builtin; (refine qWf rfl _ _ _ rfl qK8 (by decide) qZl qYu rfl (HO.out.alloc qZl _) rfl ?hg xn ⟨rfl, rfl⟩ ?hb1 ?hb2 ?hb3 ?_); (case hg => simp); (case hb1 => omega); (case hb2 => omega); (case hb3 => simp; omega); intro v1 w1 o1 g1; have HO1 := lH o1; have HB1 := lH (Below.own (HB.out.alloc _) (Nat.le_refl _) (HO.out.alloc qZl _) g1); have n7 : w1.cell? ⟨wr.heap.size, 7, none⟩ = some (.slice xa ks.length xc) := (World.cell?_of_block (g1.block wr.heap.size (by simp) (fun e => by have := HOB.out wr.heap.size e.symm; omega))).trans (HN.out.cell 7); clear o1 g1)
 | (go_at_call 13; (with_reducible refine (HC.out _ HB1.out).mono ?_); rintro e w2 ⟨b2, y2, rfl, o2⟩; have HB2 := lH b2; have HX2 := lH o2; have HO2 := lH (HO1.out.below b2 (Nat.le_refl _) (fun _ _ _ h => h)); have S2 := b2.size; have S1 := HB1.out.size; clear b2 o2)
 | (at_builtin; go_must (refine qZy rfl _ _ _ rfl qK8 (by decide) rfl HO2.out rfl HX2.out.read (fun cs y _ h => qYu _ cs y h) (by simp; omega) (by simp; omega) (by omega) (fun _ _ _ _ _ h => h) ?_); intro v3 w3 o3 g3 _ f3; have HO3 := lH o3; have HB3 := lH (Below.own (Bel.then HB1.out HB2.out) (Nat.le_refl _) HO2.out g3); clear o3 g3 f3))
    go_roundw
    case rel => exact ⟨j + 1, _, by omega, by go_num, HT.out.symm, HO3.out, HB3.out⟩
    case measure => simp [intOf]; omega
  · have hT : l.take j = l := List.take_of_length_le (by omega)
    have HPl : Hid (O = nodesL l) := lH (by rw [HP.out, hT])
    clear hT hR
    go_wp2
    go_ret
    exact ⟨HB.out, _, rfl, HPl.out ▸ HO.out⟩
end Go.Proofs.Ytklbmkaomojciaa
namespace Go.Proofs.Ytklbmkaomojciaa
open Go.RowKit
theorem qQ0 {P : Program} {w : World} {ops : Array Oper} {rest : List Oper} {o : Oper} {a : Act} {Q : Exit -> Act -> World -> Prop} (hg : o.guard = none)
 (s x : Operand) (t : TypeId) (ho : o.op = .call { callee := .builtin .append, args := #[s, x], argTypes := #[t, t] })
 {e : TypeId} {sz bytes : Nat} (S : SlT P t e sz bytes) (hsz : 0 < sz) {α : Type} {rd : World -> List Value -> α -> Prop} {v : Value} (hst : ∀ w' cs y, w.grownBy w' v.ownBlock -> rd w cs y -> rd w' cs y) (h1c : ∀ w cs y, rd w cs y -> ∀ u ∈ cs, u.oneCell' = true)
 {base : Nat} {l : List α} (hs : a.eval s = v) (hown : qQc sz rd base e w v l) {C : Array Value} {e' : TypeId} {g : Nat} (hx : a.eval x = .slice (some ⟨g, 0, none⟩) 1 1) (hgs : g = w.heap.size) (y : α)
 (hC : C.size = sz /\ rd w C.toList y) (hbytes : (l.length + 1) * bytes <= 140737488355328) (hmax : l.length + 1 <= 9223372036854775807) (hbase : base <= w.heap.size)
 (h : ∀ v' w', qQc sz rd base e w' v' (l ++ [y]) -> w.grownBy w' v.ownBlock -> qQu w v v' -> wpList P ops Q rest (a.put o.dst v') w') : wpList P ops Q (o :: rest) a (w.alloc (.cells C e')) := by
 subst hgs
 have hal : ∀ cs y', rd w cs y' -> rd (w.alloc (.cells C e')) cs y' := fun cs y' h => hst _ _ _ (World.grownBy_alloc w _ _) h
 have hrow := qZ0 (rd := rd) (sz := sz) w C.toList e' y (by simpa using hC.1) (by simp only [Array.toArray_toList]; exact hal _ _ hC.2)
 simp only [Array.toArray_toList] at hrow
 have hown2 : qQc sz rd base e (w.alloc (.cells C e')) v l := hown.agree (fun b hb => Below.heap_alloc w _ b (hown.lt b hb).2) (fun _ _ _ hr => hal _ _ hr)
 obtain ⟨rd2, hrd2⟩ : ∃ rd2 : World -> List Value -> α -> Prop, rd2 = fun W cs y' => rd w cs y' /\ rd W cs y' := ⟨_, rfl⟩
 have up : ∀ {W V m}, qQc sz rd2 base e W V m -> qQc sz rd base e W V m := fun hh => by
  obtain ⟨xss, q1, q2, q3⟩ := hh
  exact ⟨xss, q1, fun i hi hi' => ⟨(q2 i hi hi').1, by have := (q2 i hi hi').2; rw [hrd2] at this; exact this.2⟩, q3⟩
 have hown3 : qQc sz rd2 base e (w.alloc (.cells C e')) v l := by
  obtain ⟨xss, q1, q2, q3⟩ := hown
  obtain ⟨xss', p1, p2, p3⟩ := hown2
  refine ⟨xss, q1, fun i hi hi' => ⟨(q2 i hi hi').1, by rw [hrd2]; exact ⟨(q2 i hi hi').2, hal _ _ (q2 i hi hi').2⟩⟩, qZr q3 (fun b hb => Below.heap_alloc w _ b (q3.lt b hb).2)⟩
 have hrow3 : qQa sz rd2 (· = w.heap.size) (w.alloc (.cells C e')) (.slice (some ⟨w.heap.size, 0, none⟩) 1 1) [y] := by
  have := qZ0 (rd := rd2) (sz := sz) w C.toList e' y (by simpa using hC.1) (by simp only [Array.toArray_toList]; rw [hrd2]; exact ⟨hC.2, hal _ _ hC.2⟩)
  simpa only [Array.toArray_toList] using this
 refine qZy hg s x t ho S hsz hs hown3 hx hrow3 (fun cs y' _ hr => h1c _ _ _ (by rw [hrd2] at hr; exact hr.2)) (by simpa using hbytes) (by simpa using hmax) (by simp; omega)
  (fun w' hgr cs y' _ hr => by
   rw [hrd2] at hr ⊢
   exact ⟨hr.1, hst _ _ _ (qQn (World.grownBy_alloc w _ _) hgr) hr.1⟩) ?_
 intro v' w' h1 h2 _ h3
 refine h v' w' (up h1) (qQn (World.grownBy_alloc w _ _) h2) ?_
 rcases h3 with h3 | ⟨k, h3, hk⟩
 · exact .inl h3
 · exact .inr ⟨k, h3, by simp at hk; omega⟩
theorem qQa.conv {α β : Type} {sz : Nat} {rd : World -> List Value -> α -> Prop} {rd' : World -> List Value -> β -> Prop} {B C : Nat -> Prop} {w : World} {v : Value} {l : List α} {l' : List β} (h : qQa sz rd B w v l) (hl : l.length = l'.length)
 (hr : ∀ i (h1 : i < l.length) (h2 : i < l'.length) b cs, v.ownBlock = some b -> B b -> rd w cs l[i] -> C b /\ rd' w cs l'[i]) : qQa sz rd' C w v l' := by
 rcases h with ⟨h0, rfl⟩ | ⟨b, off, cap, h1, h2, h3, h4⟩
 · left
   refine ⟨h0, ?_⟩
   cases l' with
   | nil => rfl
   | cons => simp at hl
 · refine .inr ⟨b, off, cap, by rw [h1, hl], by omega, h3, fun i hi => ?_⟩
   obtain ⟨g1, cs, g2, g3, g4⟩ := h4 i (by omega)
   obtain ⟨r1, r2⟩ := hr i (by omega) hi b cs (by rw [h1]; rfl) g1 g4
   exact ⟨r1, cs, g2, g3, r2⟩
def rdO (base : Nat) : Nat -> World -> List Value -> It × List Nat -> Prop
 | 0, _, _, _ => False
 | k + 1, w, cs, y => ∃ (v : Value) (Ss : List (List Nat)), cs = qQd y.1.h v /\ Ss.length = y.1.kids.length /\ qQc 8 (rdO base k) base 35 w v (y.1.kids.zip Ss) /\ y.2 = v.ownBlock.toList ++ Ss.flatten /\ y.2.Nodup
def OwnT (base k : Nat) (w : World) (v : Value) (l : List It) (S : List Nat) : Prop :=
 ∃ Ss : List (List Nat), Ss.length = l.length /\ qQc 8 (rdO base k) base 35 w v (l.zip Ss) /\ S = v.ownBlock.toList ++ Ss.flatten /\ S.Nodup
theorem qHp {l : List It} {Ss : List (List Nat)} {y : It × List Nat} (h : y ∈ l.zip Ss) : y.2 ∈ Ss := (List.of_mem_zip (a := y.1) (b := y.2) h).2
theorem rdO.lt {base : Nat} {w : World} : ∀ {k : Nat} {cs : List Value} {y : It × List Nat}, rdO base k w cs y -> ∀ b ∈ y.2, base <= b /\ b < w.heap.size := by
 intro k
 induction k with
 | zero => intro cs y h; exact h.elim
 | succ k ih =>
   intro cs y h b hb
   obtain ⟨v, Ss, _, hl, hO, hS, _⟩ := h
   rw [hS] at hb
   rcases List.mem_append.1 hb with hb | hb
   · exact hO.lt b (by simpa using hb)
   · obtain ⟨S, hS1, hS2⟩ := List.mem_flatten.1 hb
     obtain ⟨i, hi, rfl⟩ := List.getElem_of_mem hS1
     obtain ⟨xss, g1, g2, g3⟩ := hO
     have hz : i < (y.1.kids.zip Ss).length := by simp; omega
     have := (g2 i hz (by omega)).2
     refine ih this b ?_
     rw [List.getElem_zip]
     exact hS2
theorem OwnT.lt {base k : Nat} {w : World} {v : Value} {l : List It} {S : List Nat} (h : OwnT base k w v l S) : ∀ b ∈ S, base <= b /\ b < w.heap.size := by
 obtain ⟨Ss, h1, h2, h3, h4⟩ := h
 exact rdO.lt (k := k + 1) (cs := _) (y := (It.mk {} l, S)) ⟨v, Ss, rfl, h1, h2, h3, h4⟩
theorem qQc.redo {α : Type} {sz : Nat} {rd rd' : World -> List Value -> α -> Prop} {base : Nat} {e : TypeId} {w w' : World} {v : Value} {l : List α} (h : qQc sz rd base e w v l) (ha : ∀ b, v.ownBlock = some b -> w'.heap[b]? = w.heap[b]?) (hr : ∀ cs x, x ∈ l -> rd w cs x -> rd' w' cs x) : qQc sz rd' base e w' v l := by
 obtain ⟨xss, h1, h2, h3⟩ := h
 exact ⟨xss, h1, fun i hi hi' => ⟨(h2 i hi hi').1, hr _ _ (List.getElem_mem hi) (h2 i hi hi').2⟩, qZr h3 ha⟩
theorem rdO.agree {base : Nat} {w w' : World} : ∀ {k : Nat} {cs : List Value} {y : It × List Nat}, rdO base k w cs y -> (∀ b ∈ y.2, w'.heap[b]? = w.heap[b]?) -> rdO base k w' cs y := by
 intro k
 induction k with
 | zero => intro cs y h; exact h.elim
 | succ k ih =>
   intro cs y h ha
   obtain ⟨v, Ss, h0, hl, hO, hS, hN⟩ := h
   refine ⟨v, Ss, h0, hl, hO.redo (fun b hb => ha b (by rw [hS, hb]; simp)) (fun cs x hx hr => ih hr (fun b hb => ha b ?_)), hS, hN⟩
   rw [hS]
   exact List.mem_append_right _ (List.mem_flatten.2 ⟨_, qHp hx, hb⟩)
theorem rdO.base_le {base base' : Nat} {w : World} (hb : base' <= base) : ∀ {k : Nat} {cs : List Value} {y : It × List Nat}, rdO base k w cs y -> rdO base' k w cs y := by
 intro k
 induction k with
 | zero => intro cs y h; exact h.elim
 | succ k ih =>
   intro cs y h
   obtain ⟨v, Ss, h0, hl, hO, hS, hN⟩ := h
   exact ⟨v, Ss, h0, hl, (hO.redo (fun _ _ => rfl) (fun cs x _ hr => ih hr)).base_le hb, hS, hN⟩
theorem OwnT.agree {base k : Nat} {w w' : World} {v : Value} {l : List It} {S : List Nat} (h : OwnT base k w v l S) (ha : ∀ b ∈ S, w'.heap[b]? = w.heap[b]?) : OwnT base k w' v l S := by
 obtain ⟨Ss, h1, h2, h3, h4⟩ := h
 obtain ⟨v', Ss', e, g1, g2, g3, g4⟩ := rdO.agree (k := k + 1) (cs := qQd {} v) (y := (It.mk {} l, S)) ⟨v, Ss, rfl, h1, h2, h3, h4⟩ ha
 have : v = v' := by unfold qQd at e; simp at e; exact e.2.2.2.2.2.2.2
 subst this
 exact ⟨Ss', g1, g2, g3, g4⟩
theorem OwnT.below {base k : Nat} {w w' : World} {v : Value} {l : List It} {S : List Nat} (h : OwnT base k w v l S) (hb : Bel w w') : OwnT base k w' v l S :=
 h.agree (fun b hb' => hb.block b (h.lt b hb').2)
theorem rdO.its {base : Nat} {w : World} : ∀ {k : Nat} {cs : List Value} {y : It × List Nat}, rdO base k w cs y -> rdIt (fun b => b ∈ y.2) k w cs y.1 := by
 intro k
 induction k with
 | zero => intro cs y h; exact h.elim
 | succ k ih =>
   intro cs y h
   obtain ⟨v, Ss, h0, hl, hO, hS, hN⟩ := h
   refine ⟨v, h0, hO.row.conv (by simp; omega) (fun i h1 h2 b cs hv hb hr => ?_)⟩
   refine ⟨by rw [hS, hv]; simp, ?_⟩
   have := ih hr
   rw [List.getElem_zip] at this
   refine this.mono (fun b hb => ?_)
   rw [hS]
   exact List.mem_append_right _ (List.mem_flatten.2 ⟨_, List.getElem_mem _, hb⟩)
theorem OwnT.its {base k : Nat} {w : World} {v : Value} {l : List It} {S : List Nat} (h : OwnT base k w v l S) : ItsK (· ∈ S) k w v l := by
 obtain ⟨Ss, h1, h2, h3, h4⟩ := h
 obtain ⟨v', e, g⟩ := rdO.its (k := k + 1) (cs := qQd {} v) (y := (It.mk {} l, S)) ⟨v, Ss, rfl, h1, h2, h3, h4⟩
 have : v = v' := by unfold qQd at e; simp at e; exact e.2.2.2.2.2.2.2
 subst this
 exact g
theorem OwnT.read {base k : Nat} {w : World} {v : Value} {l : List It} {S : List Nat} (h : OwnT base k w v l S) : ItsK (· < w.heap.size) k w v l := h.its.mono (fun b hb => (h.lt b hb).2)
end Go.Proofs.Ytklbmkaomojciaa
