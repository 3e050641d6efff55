/- append, as a step of a region that draws its order; slices of slices. -/
import Derived.Test.YtklbmkaomojciaaGreatRefTake
import Derived.Test.YtklbmkaomojciaaGreatRefWith
import Derived.Test.YtklbmkaomojciaaGreatPlains
import Derived.Deep.RegionLaw
namespace Go.Proofs.YtklbmkaomojciaaGreat
open Go.RowKit
theorem zYx {P : Program} {w : World} {o : Oper} {a : Act} {K : Act -> World -> Prop} {Q : Exit -> Act -> World -> Prop}
 (s x : Operand) (t : TypeId) (ho : o.op = .call { callee := .builtin .append, args := #[s, x], argTypes := #[t, t] })
 {e : TypeId} {sz bytes : Nat} (S : SlT P t e sz bytes) (hsz : 0 < sz) {α : Type} {rd : World -> List Value -> α -> Prop} {base : Nat} {v : Value} {l : List α} (hs : a.eval s = v)
 (hown : qQc sz rd base e w v l) {xv : Value} {m : List α} {B : Nat -> Prop} (hx : a.eval x = xv) (hrow : qQa sz rd B w xv m) (h1c : ∀ cs y, y ∈ m -> rd w cs y -> ∀ u ∈ cs, u.oneCell' = true)
 (hbytes : (l.length + m.length) * bytes <= 140737488355328) (hmax : l.length + m.length <= 9223372036854775807) (hbase : base <= w.heap.size)
 (hkeep : ∀ w', w.grownBy w' v.ownBlock -> ∀ cs y, (y ∈ l ∨ y ∈ m) -> rd w cs y -> rd w' cs y)
 (h : ∀ v' w', qQc sz rd base e w' v' (l ++ m) -> w.grownBy w' v.ownBlock -> (v' = .slice none 0 0 ↔ v = .slice none 0 0 /\ m = []) -> qVv w v v' -> K (a.put o.dst v') w') : Oper.wp P o a w K Q := by
 obtain ⟨i, z, hi, hz, hsize, hby, hzs⟩ := S.info
 obtain ⟨xss, q1, q2, q3⟩ := hown
 have hmax' : l.length + m.length <= maxLen := by unfold maxLen; omega
 rcases hrow with ⟨rfl, rfl⟩ | ⟨b, off, cap, rfl, c1, c2, c3⟩
 ·
  have hrun : (Builtin.append_ #[t, t] o.type #[v, .slice none 0 0]).run P w = .ok v w := by
   have := run_append_owned_none (P := P) w base t o.type e i sz S.und hi v l.length xss.flatten q3
   exact this
  unfold Oper.wp execOp
  simp only [ho, resolve, invoke, builtin, Sem.run_bind, Sem.run_pure, Result.andThen_ok, List.map_toArray, List.map_cons, List.map_nil, hs, hx, hrun]
  exact (h v w ⟨xss, by simpa using q1, by simpa using q2, by simpa using q3⟩ (World.grownBy.refl _ _) (by simp) (.inl rfl))
 ·
  have hex : ∃ yss : List (List Value), yss.length = m.length /\ (∀ k (hk : k < m.length) (hk' : k < yss.length), yss[k].length = sz /\ Cells w b (off + k * sz) yss[k] /\ rd w yss[k] m[k]) := by
   clear h hx hkeep h1c hbytes hmax hmax'
   have : ∀ n, n <= m.length -> ∃ yss : List (List Value), yss.length = n /\ (∀ k (_ : k < n) (hk : k < m.length) (hk' : k < yss.length), yss[k].length = sz /\ Cells w b (off + k * sz) yss[k] /\ rd w yss[k] m[k]) := by
    intro n
    induction n with
    | zero => intro _; exact ⟨[], rfl, by omega⟩
    | succ n ih =>
      intro hn
      obtain ⟨yss, y1, y2⟩ := ih (by omega)
      obtain ⟨_, cs, d1, d2, d3⟩ := c3 n (by omega)
      refine ⟨yss ++ [cs], by simp [y1], ?_⟩
      intro k hk hkm hk'
      by_cases e1 : k < n
      · rw [List.getElem_append_left (by omega)]; exact y2 k e1 hkm (by omega)
      · obtain rfl : k = n := by omega
        rw [List.getElem_append_right (by omega)]
        simp only [y1, Nat.sub_self, List.getElem_cons_zero]
        exact ⟨d1, d2, d3⟩
   obtain ⟨yss, y1, y2⟩ := this m.length (Nat.le_refl _)
   exact ⟨yss, y1, fun k hk hk' => y2 k hk hk hk'⟩
  obtain ⟨yss, y1, y2⟩ := hex
  have hyl : ∀ y ∈ yss, y.length = sz := by
   intro y hy
   obtain ⟨k, hk, rfl⟩ := List.getElem_of_mem hy
   exact (y2 k (by omega) hk).1
  have hlen : yss.flatten.length = m.length * sz := by rw [qXi hyl, y1]
  have hadd : ∀ j, (⟨b, off, none⟩ : Addr).add j = ⟨b, off + j, none⟩ := by intro j; unfold Addr.add; split <;> simp_all
  have hA := qW2 (P := P) w base t o.type e i z sz bytes S.und hi hz hsize hby hzs hsz v l.length xss.flatten q3 ⟨b, off, none⟩ m.length cap yss.flatten hlen ?_ ?_ hmax' hbytes hbase
  · obtain ⟨v', w', hrun, o1, o2, o3, o4⟩ := hA
    unfold Oper.wp execOp
    simp only [ho, resolve, invoke, builtin, Sem.run_bind, Sem.run_pure, Result.andThen_ok, List.map_toArray, List.map_cons, List.map_nil, hs, hx, hrun]
    refine h v' w' ?_ o2 (by rw [o3]; simp) o4
    exact qQc.snoc_of q1 (fun k hk hk' => ⟨(q2 k hk hk').1, hkeep w' o2 _ _ (.inl (List.getElem_mem hk)) (q2 k hk hk').2⟩) y1
     (fun k hk hk' => ⟨(y2 k hk hk').1, hkeep w' o2 _ _ (.inr (List.getElem_mem hk)) (y2 k hk hk').2.2⟩) o1
  · intro j u hu
    have hj : j < m.length * sz := by rw [<- hlen]; exact (List.getElem?_eq_some_iff.1 hu).1
    have hk : j / sz < m.length := Nat.div_lt_of_lt_mul (by rw [Nat.mul_comm]; exact hj)
    have hr : j % sz < sz := Nat.mod_lt _ hsz
    have hj2 : j = j / sz * sz + j % sz := by rw [Nat.mul_comm]; exact (Nat.div_add_mod j sz).symm
    obtain ⟨z1, z2, z3⟩ := y2 (j / sz) hk (by omega)
    have hget := qKi hyl (j / sz) (by omega) (j % sz) _ (List.getElem?_eq_getElem (by omega : j % sz < (yss[j / sz]'(by omega)).length))
    rw [<- hj2, hu] at hget
    have := z2 (j % sz) u (by rw [List.getElem?_eq_getElem (by omega : j % sz < (yss[j / sz]'(by omega)).length)]; exact hget.symm)
    rw [hadd, hj2]
    rw [Nat.add_assoc] at this
    exact this
  · intro u hu
    obtain ⟨y, hy, huy⟩ := List.mem_flatten.1 hu
    obtain ⟨k, hk, rfl⟩ := List.getElem_of_mem hy
    exact h1c _ _ (List.getElem_mem (by omega)) (y2 k (by omega) hk).2.2 u huy
theorem qQ8 {P : Program} {w : World} {o : Oper} {a : Act} {K : Act -> World -> Prop} {Q : Exit -> Act -> World -> Prop} {E : Prop} {ops : Array Oper} (hg : o.guard = none)
 (s x : Operand) (t : TypeId) (ho : o.op = .call { callee := .builtin .append, args := #[s, x], argTypes := #[t, t] })
 {e : TypeId} {sz bytes : Nat} (S : SlT P t e sz bytes) (hsz : 0 < sz) {α : Type} {rd : World -> List Value -> α -> Prop} {base : Nat} {v : Value} {l : List α} (hs : a.eval s = v)
 (hown : qQc sz rd base e w v l) {xv : Value} {m : List α} {B : Nat -> Prop} (hx : a.eval x = xv) (hrow : qQa sz rd B w xv m) (h1c : ∀ cs y, y ∈ m -> rd w cs y -> ∀ u ∈ cs, u.oneCell' = true)
 (hbytes : (l.length + m.length) * bytes <= 140737488355328) (hmax : l.length + m.length <= 9223372036854775807) (hbase : base <= w.heap.size)
 (hkeep : ∀ w', w.grownBy w' v.ownBlock -> ∀ cs y, (y ∈ l ∨ y ∈ m) -> rd w cs y -> rd w' cs y)
 (h : ∀ v' w', qQc sz rd base e w' v' (l ++ m) -> w.grownBy w' v.ownBlock -> (v' = .slice none 0 0 ↔ v = .slice none 0 0 /\ m = []) -> qVv w v v' -> K (a.put o.dst v') w') : if Region.wanted o (yielded ops a.tmps) = true then Oper.wp P o a w K Q else E := by
 rw [if_pos (by simp [Region.wanted, hg])]
 exact zYx s x t ho S hsz hs hown hx hrow h1c hbytes hmax hbase hkeep h
theorem qQa.take {α : Type} {sz : Nat} {rd : World -> List Value -> α -> Prop} {B : Nat -> Prop} {w : World} {b o cap : Nat} {l : List α} (h : qQa sz rd B w (.slice (some ⟨b, o, none⟩) l.length cap) l) (n : Nat) (hn : n <= l.length) :
 qQa sz rd B w (.slice (some ⟨b, o, none⟩) n cap) (l.take n) := by
 rcases qQa.cases h with ⟨h, _⟩ | ⟨b', o', c', h1, h2, h3, h4⟩
 · simp at h
 · simp at h1
   obtain ⟨⟨rfl, rfl⟩, rfl⟩ := h1
   have e : (l.take n).length = n := by rw [List.length_take]; omega
   refine .inr ⟨b, o, cap, by rw [e], by omega, h3, fun i hi => ?_⟩
   rw [e] at hi
   have := h4 i (by omega)
   rw [List.getElem_take]
   exact this
theorem qQa.drop {α : Type} {sz : Nat} {rd : World -> List Value -> α -> Prop} {B : Nat -> Prop} {w : World} {b o cap : Nat} {l : List α} (h : qQa sz rd B w (.slice (some ⟨b, o, none⟩) l.length cap) l) (n : Nat) (hn : n <= l.length) :
 qQa sz rd B w (.slice (some ⟨b, o + n * sz, none⟩) (l.length - n) (cap - n)) (l.drop n) := by
 rcases qQa.cases h with ⟨h, _⟩ | ⟨b', o', c', h1, h2, h3, h4⟩
 · simp at h
 · simp at h1
   obtain ⟨⟨rfl, rfl⟩, rfl⟩ := h1
   refine .inr ⟨b, o + n * sz, cap - n, by rw [List.length_drop], by rw [List.length_drop]; omega, by omega, fun i hi => ?_⟩
   rw [List.length_drop] at hi
   have := h4 (n + i) (by omega)
   rw [List.getElem_drop, Nat.add_assoc, <- Nat.add_mul]
   exact this
end Go.Proofs.YtklbmkaomojciaaGreat
set_option maxRecDepth 100000
set_option maxHeartbeats 2000000
namespace Go.Proofs.YtklbmkaomojciaaGreat
open Go.RowKit
theorem qYv : SlT Tryz.prog 63 106 2 32 := by
 refine ⟨by kernel_rfl, ?_⟩
 obtain ⟨i, h1, h2, h3, h4⟩ := info_parts (by kernel_rfl : (Tryz.prog.info? 106).map (fun i => (i.zero, i.size, i.bytes)) = some (some (.agg #[.string ⟨#[]⟩, .string ⟨#[]⟩]), 2, 32))
 exact ⟨i, _, h1, h2, h3, h4, rfl⟩
theorem qBb : ∀ (w : World) (cs : List Value) (y : Att), qH3 w cs y -> ∀ u ∈ cs, u.oneCell' = true := by
 intro w cs y h u hu; cases h; simp at hu; rcases hu with rfl | rfl <;> rfl
theorem zZq (n v : Txt) : ∀ (l p : List Att) (b : Bool), (l.foldl (attStep n v) (p, b)).1.length <= p.length + 2 * l.length := by
 intro l
 induction l with
 | nil => intro p b; simp
 | cons a l ih =>
   intro p b
   simp only [List.foldl_cons, attStep]
   split
   · exact Nat.le_trans (ih _ _) (by simp; omega)
   · split
     · exact Nat.le_trans (ih _ _) (by simp; omega)
     · exact Nat.le_trans (ih _ _) (by simp; omega)
theorem qXj {w w' : World} {g : Nat} {C : List Value} {e : TypeId} {row : Option Nat} (h : Blk w g C e) (hg : w.grownBy w' row) (hr : row ≠ some g) : Blk w' g C e :=
 h.of (hg.block g h.lt (fun e => hr e.symm))
theorem tup_le {u : Value} {a : Nat} {b : Int} (h : (a : Int) = b) : Value.tuple #[u, .bool (decide (b <= 8))] = .tuple #[u, .bool (decide (a <= 8))] := by
 have : decide (b <= 8) = decide (a <= 8) := by congr 1; exact propext ⟨fun g => by omega, fun g => by omega⟩
 rw [this]
theorem qWy (m : Nat) (v : Value) (l : List Att) (n x : Txt) (w : World) (hv : qKw m w v l) (hm : m <= w.heap.size) (hl : l.length <= 1000) :
 Calls Tryz.prog 116 #[v, .string ⟨n.toArray⟩, .string ⟨x.toArray⟩] w (Rn w fun w' y => ∃ u, y = .tuple #[u, .bool (decide ((qYi l n x).length <= 8))] /\ qQc 2 qH3 w.heap.size 106 w' u (qYi l n x)) := by
 obtain ⟨a1, cap1, rfl, h1, h2⟩ := qQa.form hv
 have HV := lH hv
 clear hv
 go_enter Tryz.func116, Tryz.ntmps116
 go_wp2
 go_loopw [14, 8, 9] (fun i o b wr => ∃ (j : Nat) (out : List Att) (done : Bool), j <= l.length /\ i = .int .i64 j /\ b = .bool done /\ (l.take j).foldl (attStep n x) ([], false) = (out, done) /\ qQc 2 qH3 w.heap.size 106 wr o out /\ Bel w wr) (fun i _ _ _ => l.length - (intOf i).toNat)
 case atStart => exact ⟨0, [], false, by omega, rfl, rfl, rfl, qQc.nil _ _ _, Below.refl _ _⟩
 case round =>
  obtain ⟨j, out, done, hj, rfl, rfl, hP, hO, hB⟩ := hrel
  have HP := lH hP
  have HO := lH hO
  have HB := lH hB
  have hR := qQa.later HV.out qQx hB hm
  obtain ⟨oa, ocap, rfl, o1, o2⟩ := qQa.form hO.read
  have hol : out.length <= 2 * l.length := by
   have := zZq n x (l.take j) [] false
   rw [hP, List.length_take] at this
   simp at this; omega
  have S0 := hB.size
  have hob := hO.lt
  clear hP hO hB
  by_cases hlt : j < l.length
  · obtain ⟨_, _, _, _, e1, _, _, _, _⟩ := qQa.elem hR j hlt
    simp at e1
    obtain ⟨rfl, rfl⟩ := e1
    obtain ⟨c0, c1⟩ := qBw hR j hlt
    have hst : Hid ((l.take (j + 1)).foldl (attStep n x) ([], false) = attStep n x (out, done) l[j]) := lH (by
     rw [List.take_succ_eq_append_getElem hlt, List.foldl_append, HP.out]; rfl)
    clear hR
    generalize l[j] = e at *
    obtain ⟨en, ev⟩ := e
    simp only at c0 c1
    by_cases hx : en = n
    · have hb : (en == n) = true := by simpa using hx
      have hb2 : (!Op.bytesLess en n && !(en == n)) = false := by simp [hb]
      have hs2 : Hid ((l.take (j + 1)).foldl (attStep n x) ([], false) = (out ++ [⟨en, x⟩], true)) := lH (by rw [hst.out]; simp only [attStep]; rw [if_pos hx])
      clear hst hx
      go_wp2_with (at_builtin; go_must (refine qQr rfl _ _ _ rfl qYv (by decide) qQx qBb rfl (HO.out.alloc qQx _) rfl ?hg (⟨en, x⟩ : Att) ⟨rfl, rfl⟩ ?hb1 ?hb2 ?hb3 ?_); (case hg => simp); (case hb1 => omega); (case hb2 => omega); (case hb3 => simp; omega); intro v1 w1 o1 g1; have HO1 := lH o1; have HB1 := lH (Below.own (HB.out.alloc _) (Nat.le_refl _) (HO.out.alloc qQx _) g1); clear o1 g1)
      go_roundw
      case rel => exact ⟨j + 1, out ++ [⟨en, x⟩], true, by omega, by go_num, rfl, hs2.out, HO1.out, HB1.out⟩
      case measure => simp [intOf]; omega
    · have hb : (en == n) = false := by simpa using hx
      cases hle : Op.bytesLess en n with
      | true =>
        have hs2 : Hid ((l.take (j + 1)).foldl (attStep n x) ([], false) = (out ++ [⟨en, ev⟩], done)) := lH (by rw [hst.out]; simp only [attStep]; rw [if_neg hx, if_neg (by simp [hle])])
        clear hst hx
        go_wp2_with (at_builtin; go_must (refine qQr rfl _ _ _ rfl qYv (by decide) qQx qBb rfl (HO.out.alloc qQx _) rfl ?hg (⟨en, ev⟩ : Att) ⟨rfl, rfl⟩ ?hb1 ?hb2 ?hb3 ?_); (case hg => simp); (case hb1 => omega); (case hb2 => omega); (case hb3 => simp; omega); intro v1 w1 o1 g1; have HO1 := lH o1; have HB1 := lH (Below.own (HB.out.alloc _) (Nat.le_refl _) (HO.out.alloc qQx _) g1); clear o1 g1)
        go_roundw
        case rel => exact ⟨j + 1, out ++ [⟨en, ev⟩], done, by omega, by go_num, rfl, hs2.out, HO1.out, HB1.out⟩
        case measure => simp [intOf]; omega
      | false =>
        cases done with
        | true =>
          have hs2 : Hid ((l.take (j + 1)).foldl (attStep n x) ([], false) = (out ++ [⟨en, ev⟩], true)) := lH (by rw [hst.out]; simp only [attStep]; rw [if_neg hx, if_neg (by simp)])
          clear hst hx
          go_wp2_with (at_builtin; go_must (refine qQr rfl _ _ _ rfl qYv (by decide) qQx qBb rfl (HO.out.alloc qQx _) rfl ?hg (⟨en, ev⟩ : Att) ⟨rfl, rfl⟩ ?hb1 ?hb2 ?hb3 ?_); (case hg => simp); (case hb1 => omega); (case hb2 => omega); (case hb3 => simp; omega); intro v1 w1 o1 g1; have HO1 := lH o1; have HB1 := lH (Below.own (HB.out.alloc _) (Nat.le_refl _) (HO.out.alloc qQx _) g1); clear o1 g1)
          go_roundw
          case rel => exact ⟨j + 1, out ++ [⟨en, ev⟩], true, by omega, by go_num, rfl, hs2.out, HO1.out, HB1.out⟩
          case measure => simp [intOf]; omega
        | false =>
          have hs2 : Hid ((l.take (j + 1)).foldl (attStep n x) ([], false) = (out ++ [⟨n, x⟩, ⟨en, ev⟩], true)) := lH (by rw [hst.out]; simp only [attStep]; rw [if_neg hx, if_pos (by simp [hle])])
          clear hst hx
          have hbk := Blk.new' wr wr.heap.size rfl #[.string ⟨en.toArray⟩, .string ⟨ev.toArray⟩] 106
          have HBK := lH hbk
          clear hbk
          go_wp2_with (first
 | (at_builtin; (refine qQr rfl _ _ _ rfl qYv (by decide) qQx qBb rfl (HO.out.alloc qQx _) rfl ?hg (⟨n, x⟩ : Att) ⟨rfl, rfl⟩ ?hb1 ?hb2 ?hb3 ?_); (case hg => simp); (case hb1 => omega); (case hb2 => omega); (case hb3 => simp; omega); intro v1 w1 o1 g1; have k1 := qXj HBK.out g1 (fun e => by have := hob _ e; omega); have n0 := k1.cell 0; have n1 := k1.cell 1; simp at n0 n1; have S1 := g1.size; simp at S1; obtain ⟨oa1, oc1, rfl, _, _⟩ := qQa.form o1.read; simp only [List.length_append, List.length_cons, List.length_nil] at o1; have HO1 := lH o1; have HB1 := lH (Below.own (HB.out.alloc _) (Nat.le_refl _) (HO.out.alloc qQx _) g1); clear o1 g1 k1)
 | (at_builtin; go_must (refine qQr rfl _ _ _ rfl qYv (by decide) qQx qBb rfl HO1.out rfl ?hg (⟨en, ev⟩ : Att) ⟨rfl, rfl⟩ ?hb1 ?hb2 ?hb3 ?_); (case hg => simp); (case hb1 => simp; omega); (case hb2 => simp; omega); (case hb3 => omega); intro v2 w2 o2 g2; have HO2 := lH o2; have HB2 := lH (Below.own HB1.out (Nat.le_refl _) HO1.out g2); clear o2 g2))
          go_roundw
          case rel => exact ⟨j + 1, out ++ [⟨n, x⟩, ⟨en, ev⟩], true, by omega, by go_num, rfl, hs2.out, by simpa using HO2.out, HB2.out⟩
          case measure => simp [intOf]; omega
  · have HR : Hid (zYw l n x = (out, done)) := lH (by unfold zYw; rw [<- HP.out, List.take_of_length_le (by omega)])
    clear hR
    cases done with
    | true =>
      have hr : Hid (qYi l n x = out) := lH (by unfold qYi; rw [HR.out]; rfl)
      go_wp2
      go_ret2
      exact ⟨HB.out, _, rfl, _, tup_le (by rw [hr.out]), by rw [hr.out]; exact HO.out⟩
    | false =>
      have hr : Hid (qYi l n x = out ++ [⟨n, x⟩]) := lH (by unfold qYi; rw [HR.out]; rfl)
      go_wp2_with (at_builtin; go_must (refine qQr rfl _ _ _ rfl qYv (by decide) qQx qBb rfl HO.out rfl ?hg (⟨n, x⟩ : Att) ⟨rfl, rfl⟩ ?hb1 ?hb2 ?hb3 ?_); (case hg => simp); (case hb1 => omega); (case hb2 => omega); (case hb3 => omega); intro v1 w1 o1 g1; obtain ⟨oa1, oc1, rfl, _, _⟩ := qQa.form o1.read; simp only [List.length_append, List.length_cons, List.length_nil] at o1; have HO1 := lH o1; have HB1 := lH (Below.own HB.out (Nat.le_refl _) HO.out g1); clear o1 g1)
      go_ret2
      exact ⟨HB1.out, _, rfl, _, tup_le (by rw [hr.out]; simp), by rw [hr.out]; exact HO1.out⟩
end Go.Proofs.YtklbmkaomojciaaGreat
