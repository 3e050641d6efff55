/- slices.Clone, IndexFunc and DeleteFunc at slices of numbers, whatever the predicate. -/
import Derived.Test.YtklbmkaomojciaaGreatDomAll
import Derived.Test.YtklbmkaomojciaaGreatRefTake
import Derived.Test.YtklbmkaomojciaaGreatRefWith
import Derived.Shelf.Abstract
import Derived.Lib.SliceRun
import Derived.Laws.IdiomCopy
set_option maxRecDepth 100000
set_option maxHeartbeats 2000000
namespace Go.Proofs.YtklbmkaomojciaaGreat
open Go.RowKit
theorem qKr (m : Nat) (v : Value) (l : List Int) (w : World) (hv : qZh m w v l) (hm : m <= w.heap.size) (hl : l.length <= 1000000000) :
 Calls Tryz.prog 127 #[v] w (Rn w fun w' y => qQb 1 qQl w.heap.size 3 w' y l) := by
 have hcmp := fun w' a n c => Lib.run_eql_slice_nil (P := Tryz.prog) w' 29 3 a n c 0 0 Tryz.underlying29
 rcases qQa.cases hv with ⟨rfl, rfl⟩ | ⟨b, o, c, rfl, h1, h2, h3⟩
 · go_enter Tryz.func127, Tryz.ntmps127
   go_wp2
   go_ret
   exact ⟨Below.refl _ _, _, rfl, qQb.nil _ _ _⟩
 · have hB : Bel w (w.alloc (.cells #[] 3)) := (Bel.refl w).alloc _
   have HO0 := lH (qY7 (sz := 1) (rd := qQl) w w.heap.size w.heap.size 3 rfl (Nat.le_refl _))
   have HR0 := lH (qQa.later hv qQd hB hm)
   have HS0 : Hid (w.heap.size <= (w.alloc (.cells #[] 3)).heap.size) := lH (by simp)
   go_enter Tryz.func127, Tryz.ntmps127
   go_wp2_with (at_builtin; go_must (refine qZj rfl _ _ _ rfl qQ4 (by decide) rfl HO0.out rfl HR0.out (fun cs y _ h => qZf _ cs y h) (by simp only [List.length_nil]; omega) (by simp only [List.length_nil]; omega) HS0.out (fun _ _ _ _ _ h => h) ?_); intro v3 w3 o3 g3 _ f3; have HO3 := lH o3; have HB3 := lH (Below.own hB (Nat.le_refl _) HO0.out g3); clear o3 g3 f3)
   go_ret
   exact ⟨HB3.out, _, rfl, by simpa using HO3.out⟩
def idxM (p : Int -> Bool) : List Int -> Nat -> Int
 | [], _ => -1
 | x :: l, i => if p x then (i : Int) else idxM p l (i + 1)
theorem idx_drop {p : Int -> Bool} {l : List Int} {j : Nat} (hj : j < l.length) : idxM p (l.drop j) j = if p l[j] then (j : Int) else idxM p (l.drop (j + 1)) (j + 1) := by
 rw [List.drop_eq_getElem_cons hj]; rfl
theorem idx_spec (p : Int -> Bool) : ∀ (l : List Int) (i : Nat), (idxM p l i = -1 /\ ∀ x ∈ l, p x = false) ∨ ∃ k, ∃ h : k < l.length, idxM p l i = ((i + k : Nat) : Int) /\ p l[k] = true /\ ∀ x ∈ l.take k, p x = false := by
 intro l
 induction l with
 | nil => intro i; left; exact ⟨rfl, by simp⟩
 | cons a l ih =>
   intro i
   by_cases ha : p a = true
   · right; exact ⟨0, by simp, by simp [idxM, ha], by simpa using ha, by simp⟩
   · rcases ih (i + 1) with ⟨h1, h2⟩ | ⟨k, hk, h1, h2, h3⟩
     · left
       refine ⟨by rw [idxM, if_neg ha, h1], fun x hx => ?_⟩
       rcases List.mem_cons.1 hx with rfl | hx
       · simpa using ha
       · exact h2 x hx
     · right
       refine ⟨k + 1, by simp; omega, by rw [idxM, if_neg ha, h1]; congr 1; omega, by simpa using h2, fun x hx => ?_⟩
       rw [List.take_succ_cons] at hx
       rcases List.mem_cons.1 hx with rfl | hx
       · simpa using ha
       · exact h3 x hx
def Tells (g : Nat) (lb : Array Value) (p : Int -> Bool) (base : Nat) (w : World) : Prop := ∀ W, Below base w W -> ∀ x : Int, Calls Tryz.prog g (#[.int .i64 x] ++ lb) W (Rb (.bool (p x)) W)
theorem qWd (g : Nat) (lb : Array Value) (p : Int -> Bool) (eg : ∀ args w, (callFunc g args).run Tryz.prog w = .ok (.enter g args) w) (m : Nat) (v : Value) (l : List Int) (w : World) (hv : qZh m w v l) (hm : m <= w.heap.size) (hp : Tells g lb p w.heap.size w) :
 Calls Tryz.prog 175 #[v, .func (.func g) #[] lb] w (Rb (.int .i64 (idxM p l 0)) w) := by
 obtain ⟨a, c, rfl, l1, l2⟩ := qQa.form hv
 have HV := lH hv
 have HPp := lH hp
 clear hv hp
 go_enter Tryz.func175, Tryz.ntmps175
 go_wp2
 go_loopw [8] (fun i wr => ∃ j : Nat, j <= l.length /\ i = .int .i64 j /\ idxM p (l.drop j) j = idxM p l 0 /\ Bel w wr) (fun i _ => l.length - (intOf i).toNat)
 case atStart => exact ⟨0, by omega, rfl, rfl, Bel.refl _⟩
 case round =>
  obtain ⟨j, hj, rfl, hF, hB⟩ := hrel
  have HF := lH hF
  have HB := lH hB
  clear hF hB
  by_cases hlt : j < l.length
  · obtain ⟨xb, xo, _, _, e1, hxb, _, _, _⟩ := qQa.elem HV.out j hlt
    simp at e1
    obtain ⟨rfl, rfl⟩ := e1
    have cx := (Bel.cells HB.out _ _ (by omega)).trans (HV.out.int_cell j hlt)
    have HI := lH (idx_drop (p := p) hlt)
    have hcall := HPp.out wr HB.out l[j]
    generalize l[j] = x at *
    cases hq : p x with
    | true =>
      rw [hq] at hcall
      have HR : Hid (idxM p l 0 = (j : Int)) := lH (by rw [<- HF.out, HI.out, hq]; rfl)
      go_wp2_with (go_at_fn g; refine qQc hcall HB fun w2 HB2 => ?_)
      go_ret
      exact ⟨qQh HR.out.symm, HB2.out⟩
    | false =>
      rw [hq] at hcall
      have HR : Hid (idxM p (l.drop (j + 1)) (j + 1) = idxM p l 0) := lH (by rw [<- HF.out, HI.out, hq]; rfl)
      go_wp2_with (go_at_fn g; refine qQc hcall HB fun w2 HB2 => ?_)
      go_roundw
      case rel => exact ⟨j + 1, by omega, by go_num, HR.out, HB2.out⟩
      case measure => simp [intOf]; omega
  · have HR : Hid (idxM p l 0 = -1) := lH (by rw [<- HF.out, List.drop_eq_nil_of_le (by omega)]; rfl)
    go_wp2
    go_ret
    exact ⟨qQh HR.out.symm, HB.out⟩
theorem zQm (g : Nat) (e : TypeId) : ∀ (vs : List Value) (o : Nat) (w : World) (C : List Value), Blk w g C e -> ∃ C', Blk (w.setCells g o vs) g C' e /\ C'.length = C.length /\ C'.take o = C.take o := by
 intro vs
 induction vs with
 | nil => intro o w C h; exact ⟨C, h, rfl, rfl⟩
 | cons v vs ih =>
   intro o w C h
   obtain ⟨C', h1, h2, h3⟩ := ih (o + 1) _ _ (h.set o v)
   refine ⟨C', h1, by simpa using h2, ?_⟩
   have := congrArg (List.take o) h3
   rw [List.take_take, List.take_take, Nat.min_eq_left (Nat.le_succ o)] at this
   rw [this, List.take_set_of_le (Nat.le_refl _)]
theorem qHp {B g : Nat} {a : World} (hg : B <= g) : ∀ (vs : List Value) (o : Nat) (w : World), Below B a w -> Below B a (w.setCells g o vs) := by
 intro vs
 induction vs with
 | nil => intro o w h; exact h
 | cons v vs ih => intro o w h; exact ih _ _ (Below.setCell h hg v)
theorem qGr : ∀ l : List Int, (l.map (fun x => [Value.int .i64 x])).flatten = l.map (Value.int .i64) := by
 intro l
 induction l with
 | nil => rfl
 | cons a l ih => simp [ih]
theorem zK0 {w : World} {base g n cap : Nat} {C : List Value} {l : List Int} (h : Blk w g C 3) (hb : base <= g) (hn : n = l.length) (hc : C.length = cap) (hcm : cap <= 9223372036854775807) (hle : n <= cap) (ht : C.take n = l.map (Value.int .i64)) :
 qQb 1 qQl base 3 w (.slice (some ⟨g, 0, none⟩) n cap) l := by
 subst hn
 refine ⟨l.map (fun x => [.int .i64 x]), by simp, fun i hi hi' => by simp [qQl], ?_, .inr ⟨g, cap, C.toArray, rfl, hb, h, hle, hcm, by simpa using hc, ?_⟩⟩
 · rw [qGr]; simp
 · rw [show C.toArray.toList = C from rfl, Nat.mul_one, ht, qGr]
theorem zYm {w : World} {base : Nat} {v : Value} {l : List Int} (h : qQb 1 qQl base 3 w v l) (hne : l ≠ []) :
 ∃ g cap C, v = .slice (some ⟨g, 0, none⟩) l.length cap /\ base <= g /\ Blk w g C 3 /\ C.length = cap /\ cap <= 9223372036854775807 /\ l.length <= cap /\ C.take l.length = l.map (Value.int .i64) := by
 have hr := h.row
 obtain ⟨xss, q1, q2, q3⟩ := h
 rcases q3.2 with ⟨rfl, h0⟩ | ⟨g, cap, cur, rfl, hb, hg, hnc, hcm, hcs, htake⟩
 · exact absurd (List.eq_nil_of_length_eq_zero h0) hne
 · refine ⟨g, cap, cur.toList, rfl, hb, by simpa [Blk] using hg, by simpa using hcs, hcm, hnc, ?_⟩
   rw [Nat.mul_one] at htake
   rw [htake]
   have : xss = l.map (fun x => [Value.int .i64 x]) := by
    refine List.ext_getElem (by simpa using q1) (fun i h1 h2 => ?_)
    have := (q2 i (by omega) h1).2
    rw [this]; simp
   rw [this, qGr]
theorem qKe (g : Nat) (lb : Array Value) (p : Int -> Bool) (eg : ∀ args w, (callFunc g args).run Tryz.prog w = .ok (.enter g args) w) (base : Nat) (v : Value) (l : List Int) (w : World) (hown : qQb 1 qQl base 3 w v l) (hb : base <= w.heap.size) (hl : l.length <= 1000000000)
 (hp : Tells g lb p base w) :
 Calls Tryz.prog 181 #[v, .func (.func g) #[] lb] w fun e w' => Below base w w' /\ ∃ y, e = .returned y /\ qQb 1 qQl base 3 w' y (l.filter (fun x => !p x)) := by
 have cI := lH (qWd g lb p eg w.heap.size v l w hown.read (Nat.le_refl _) (fun W hW => hp W (Below.mono hW hb)))
 have HPp := lH hp
 rcases idx_spec p l 0 with ⟨e1, e2⟩ | ⟨k0, hk0, e1, ht, e2⟩
 · obtain ⟨a, c, rfl, l1, l2⟩ := qQa.form hown.read
   have hF : l.filter (fun x => !p x) = l := List.filter_eq_self.2 (fun x hx => by rw [e2 x hx]; rfl)
   rw [e1] at cI
   have HO := lH hown
   rw [hF]
   clear hp hown e1 e2 hF
   go_enter Tryz.func181, Tryz.ntmps181
   go_wp2_with (go_at_call 175; refine qJ9 cI.out fun w2 HB2 => ?_)
   go_ret
   exact ⟨Below.mono HB2.out hb, _, rfl, HO.out.below HB2.out (Nat.le_refl _) (fun _ _ _ h => h)⟩
 · rw [show ((0 + k0 : Nat) : Int) = (k0 : Int) by simp] at e1
   rw [e1] at cI
   obtain ⟨b, cap, C0, rfl, hbb, hK, hCl, hcm, hle, htk⟩ := zYm hown (by rintro rfl; simp at hk0)
   have hne : ((k0 : Int) == -1) = false := beq_eq_false_iff_ne.2 (by omega)
   have hst0 : (l.take (k0 + 1)).filter (fun x => !p x) = l.take k0 := by
    rw [List.take_succ_eq_append_getElem hk0, List.filter_append, List.filter_eq_self.2 (fun x hx => by rw [e2 x hx]; rfl)]
    simp [ht]
   have HST0 := lH hst0
   have hC0 : ∀ q (h : q < l.length), C0[q]? = some (.int .i64 l[q]) := by
    intro q h
    have := congrArg (fun t => t[q]?) htk
    simp only [List.getElem?_take, h, if_true, List.getElem?_map, List.getElem?_eq_getElem h, Option.map_some] at this
    exact this
   have HC0 := lH hC0
   have HK := lH hK
   have HTK := lH htk
   clear hp hown e1 e2 hst0 hC0 hK htk ht
   have hz : ∀ w, (zeroValue 3).run Tryz.prog w = .ok (.int .i64 0) w := fun w => by simp
   go_enter Tryz.func181, Tryz.ntmps181
   go_wp2_with (go_at_call 175; refine qJ9 cI.out fun w2 HB2 => ?_)
   go_loopw [5, 6] (fun s5 s6 wr => ∃ (i j : Nat) (C : List Value), s5 = .int .i64 i /\ s6 = .int .i64 j /\ i < j /\ j <= l.length /\ i = ((l.take j).filter (fun x => !p x)).length /\ Blk wr b C 3 /\ C.length = cap /\ C.take i = ((l.take j).filter (fun x => !p x)).map (Value.int .i64) /\ (∀ q (h : q < l.length), j <= q -> C[q]? = some (.int .i64 l[q])) /\ Below base w wr) (fun _ s6 _ => l.length - (intOf s6).toNat)
   case atStart =>
    refine ⟨k0, k0 + 1, C0, rfl, by go_num, by omega, by omega, by rw [HST0.out]; simp; omega, HK.out.bel HB2.out, hCl, ?_, fun q h _ => HC0.out q h, Below.mono HB2.out hb⟩
    rw [HST0.out]
    have := congrArg (List.take k0) HTK.out
    rw [List.take_take, Nat.min_eq_left (by omega)] at this
    rw [this, List.map_take]
   case round =>
    obtain ⟨i, j, C, rfl, rfl, hij, hj, hil, hK, hC, hT, hQ, hB⟩ := hrel
    have HK2 := lH hK
    have HT := lH hT
    have HQ := lH hQ
    have HB := lH hB
    have HIL := lH hil
    have cj0 := hK.cell j
    clear hK hT hQ hB hil
    by_cases hlt : j < l.length
    · have hltz : (j : Int) < (l.length : Int) := by omega
      have cj := cj0.trans (HQ.out j hlt (Nat.le_refl _))
      have hcall := HPp.out wr HB.out l[j]
      have hstep : Hid ((l.take (j + 1)).filter (fun x => !p x) = (l.take j).filter (fun x => !p x) ++ if p l[j] then [] else [l[j]]) := lH (by
       rw [List.take_succ_eq_append_getElem hlt, List.filter_append]
       cases h : p l[j] <;> simp [h])
      clear cj0
      generalize l[j] = x at *
      cases hq : p x with
      | true =>
        rw [hq] at hcall
        have HS : Hid ((l.take (j + 1)).filter (fun x => !p x) = (l.take j).filter (fun x => !p x)) := lH (by rw [hstep.out, hq]; simp)
        clear hstep
        go_wp2_with (go_at_fn g; refine qJ9 hcall fun w3 HB3 => ?_)
        go_roundw
        case rel => exact ⟨i, j + 1, C, rfl, by go_num, by omega, by omega, by rw [HS.out]; exact HIL.out, HK2.out.bel HB3.out, hC, by rw [HS.out]; exact HT.out, fun q h hq => HQ.out q h (by omega), Below.trans HB.out (Below.mono HB3.out (Nat.le_trans hb HB.out.size))⟩
        case measure => simp [intOf]; omega
      | false =>
        rw [hq] at hcall
        have HS : Hid ((l.take (j + 1)).filter (fun x => !p x) = (l.take j).filter (fun x => !p x) ++ [x]) := lH (by rw [hstep.out, hq]; simp)
        clear hstep
        obtain ⟨old, hold⟩ : ∃ old, C[i]? = some old := ⟨_, List.getElem?_eq_getElem (show i < C.length by omega)⟩
        go_wp2_with (go_at_fn g; refine hcall.mono ?_; rintro e w3 ⟨rfl, b3⟩; have HB3 := lH b3; have HK3 := lH (HK2.out.bel b3); have c3 := (HK2.out.bel b3).cell i; have f3 := (HK2.out.bel b3).frozen i; rw [hold] at c3; clear b3)
        go_roundw
        case rel =>
         refine ⟨i + 1, j + 1, C.set i (.int .i64 x), by go_num, by go_num, by omega, by omega, by rw [HS.out]; simp; exact HIL.out, HK3.out.set i _, by simpa using hC, ?_, fun q h hq => ?_, ?_⟩
         · rw [HS.out, List.map_append, <- HT.out, List.take_succ_eq_append_getElem (by simp; omega)]
           rw [List.take_set_of_le (Nat.le_refl _)]
           simp
         · rw [List.getElem?_set_ne (by omega)]
           exact HQ.out q h (by omega)
         · exact Below.setCell (Below.trans HB.out (Below.mono HB3.out (Nat.le_trans hb HB.out.size))) hbb _
        case measure => simp [intOf]; omega
    · obtain rfl : j = l.length := by omega
      have hltz : ¬ (l.length : Int) < (l.length : Int) := by omega
      have hcl : ∀ ty, (Builtin.clear_ #[29] ty #[.slice (some ⟨b, i, none⟩) (l.length - i) (cap - i)]).run Tryz.prog wr = .ok (.tuple #[]) (wr.setCells b i (List.replicate (l.length - i) (.int .i64 0))) := fun ty =>
       Lib.run_clear_slice wr _ 3 ty _ Tryz.underlying29 hz rfl rfl b i _ _ (by omega)
        (fun t ht => by rw [HK2.out.cell (i + t), List.getElem?_eq_getElem (show i + t < C.length by omega)]; rfl) (fun t ht => HK2.out.frozen (i + t))
      have hfin : l.take l.length = l := List.take_of_length_le (Nat.le_refl _)
      rw [hfin] at HIL HT
      clear cj0
      go_wp2
      go_ret
      obtain ⟨C', q1, q2, q3⟩ := zQm b 3 (List.replicate (l.length - i) (.int .i64 0)) i wr C HK2.out
      exact ⟨qHp hbb _ _ _ HB.out, _, rfl, zK0 q1 hbb HIL.out (by omega) hcm (by omega) (by rw [q3]; exact HT.out)⟩
end Go.Proofs.YtklbmkaomojciaaGreat
