/- dom.New and dom.Own: a document in rows of its own. -/
import Derived.Test.YtajadfhkcefioaaOwnRow
import Derived.Test.YtajadfhkcefioaaRefTake
import Derived.Deep.RegionWith
import Derived.Deep.Cut
import Derived.Deep.DeepCutAuto
namespace Go.Proofs.Ytajadfhkcefioaa
open Go.RowKit
/-- APPEND OF ONE ELEMENT that was laid in a block of its own, whose reading stays where one row alone is changed -/
theorem wpl_append1K {P : Program} {w : World} {ops : Array Oper} {rest : List Oper} {o : Oper} {a : Act} {Q : Exit → Act → World → Prop} (hg : o.guard = none)
    (s x : Operand) (t : TypeId) (ho : o.op = .call { callee := .builtin .append, args := #[s, x], argTypes := #[t, t] })
    {e : TypeId} {sz bytes : Nat} (S : SlT P t e sz bytes) (hsz : 0 < sz) {α : Type} {rd : World → List Value → α → Prop} {v : Value} (hst : ∀ w' cs y, w.grownBy w' v.ownBlock → rd w cs y → rd w' cs y) (h1c : ∀ w cs y, rd w cs y → ∀ u ∈ cs, u.oneCell' = true)
    {base : Nat} {l : List α} (hs : a.eval s = v) (hown : OwnAt sz rd base e w v l) {C : Array Value} {e' : TypeId} {g : Nat} (hx : a.eval x = .slice (some ⟨g, 0, none⟩) 1 1) (hgs : g = w.heap.size) (y : α)
    (hC : C.size = sz ∧ rd w C.toList y) (hbytes : (l.length + 1) * bytes ≤ 140737488355328) (hmax : l.length + 1 ≤ 9223372036854775807) (hbase : base ≤ w.heap.size)
    (h : ∀ v' w', OwnAt sz rd base e w' v' (l ++ [y]) → w.grownBy w' v.ownBlock → FreshOr w v v' → wpList P ops Q rest (a.put o.dst v') w') : wpList P ops Q (o :: rest) a (w.alloc (.cells C e')) := by
  subst hgs
  have hal : ∀ cs y', rd w cs y' → rd (w.alloc (.cells C e')) cs y' := fun cs y' h => hst _ _ _ (World.grownBy_alloc w _ _) h
  have hrow := rowAt_alloc (rd := rd) (sz := sz) w C.toList e' y (by simpa using hC.1) (by simp only [Array.toArray_toList]; exact hal _ _ hC.2)
  simp only [Array.toArray_toList] at hrow
  have hown2 : OwnAt sz rd base e (w.alloc (.cells C e')) v l := hown.agree (fun b hb => Below.heap_alloc w _ b (hown.lt b hb).2) (fun _ _ _ hr => hal _ _ hr)
  -- (the reading of all elements in the world behind: from the one ahead)
  obtain ⟨rd2, hrd2⟩ : ∃ rd2 : World → List Value → α → Prop, rd2 = fun W cs y' => rd w cs y' ∧ rd W cs y' := ⟨_, rfl⟩
  have up : ∀ {W V m}, OwnAt sz rd2 base e W V m → OwnAt sz rd base e W V m := fun hh => by
    obtain ⟨xss, q1, q2, q3⟩ := hh
    exact ⟨xss, q1, fun i hi hi' => ⟨(q2 i hi hi').1, by have := (q2 i hi hi').2; rw [hrd2] at this; exact this.2⟩, q3⟩
  have hown3 : OwnAt sz rd2 base e (w.alloc (.cells C e')) v l := by
    obtain ⟨xss, q1, q2, q3⟩ := hown
    obtain ⟨xss', p1, p2, p3⟩ := hown2
    refine ⟨xss, q1, fun i hi hi' => ⟨(q2 i hi hi').1, by rw [hrd2]; exact ⟨(q2 i hi hi').2, hal _ _ (q2 i hi hi').2⟩⟩, ownsRow_agree q3 (fun b hb => Below.heap_alloc w _ b (q3.lt b hb).2)⟩
  have hrow3 : RowAt sz rd2 (· = w.heap.size) (w.alloc (.cells C e')) (.slice (some ⟨w.heap.size, 0, none⟩) 1 1) [y] := by
    have := rowAt_alloc (rd := rd2) (sz := sz) w C.toList e' y (by simpa using hC.1) (by simp only [Array.toArray_toList]; rw [hrd2]; exact ⟨hC.2, hal _ _ hC.2⟩)
    simpa only [Array.toArray_toList] using this
  refine wpl_appendB hg s x t ho S hsz hs hown3 hx hrow3 (fun cs y' _ hr => h1c _ _ _ (by rw [hrd2] at hr; exact hr.2)) (by simpa using hbytes) (by simpa using hmax) (by simp; omega)
    (fun w' hgr cs y' _ hr => by
      rw [hrd2] at hr ⊢
      exact ⟨hr.1, hst _ _ _ (grown_trans (World.grownBy_alloc w _ _) hgr) hr.1⟩) ?_
  intro v' w' h1 h2 _ h3
  refine h v' w' (up h1) (grown_trans (World.grownBy_alloc w _ _) h2) ?_
  rcases h3 with h3 | ⟨k, h3, hk⟩
  · exact .inl h3
  · exact .inr ⟨k, h3, by simp at hk; omega⟩
/-- a document under way, in rows of its own -/
def OwnP (base : Nat) (w : World) (v : Value) (d : Dc) : Prop := ∃ lab : Nat → Nat, OwnAt 9 (rdOwn lab base) base 98 w v d.zipIdx ∧ ∀ b, v.ownBlock = some b → lab b = 0
theorem OwnP.form {base : Nat} {w : World} {v : Value} {d : Dc} (h : OwnP base w v d) {n : Nat} (hn : d.length = n) : ∃ a c, v = .slice a n c ∧ n ≤ c ∧ c ≤ 9223372036854775807 := by
  subst hn
  obtain ⟨lab, h1, _⟩ := h
  obtain ⟨x, y, e, z1, z2⟩ := RowAt.form h1.read
  exact ⟨x, y, by simpa using e, by simpa using z1, z2⟩
theorem zip_snoc {P : Dc} {x : Nd} {i : Nat} (h : P.length = i) : (P ++ [x]).zipIdx = P.zipIdx ++ [(x, i)] := by
  rw [List.zipIdx_append, h]; simp
/-- behind the three clones and stores -/
def OwnE (wr : World) (C : List Value) (x : Nd) (av kv sv : Value) (W : World) : Prop := Bel wr W ∧ Blk W wr.heap.size (((C.set 3 av).set 5 kv).set 7 sv) 98 ∧ ∃ p q r s : Nat, wr.heap.size < p ∧ p ≤ q ∧ q ≤ r ∧ r ≤ s ∧ s ≤ W.heap.size ∧
  RowO 2 rdAtt wr.heap.size 121 (fun k => p ≤ k ∧ k < q) W av x.attrs ∧ RowO 1 rdInt wr.heap.size 3 (fun k => q ≤ k ∧ k < r) W kv x.kids ∧ RowO 1 rdInt wr.heap.size 3 (fun k => r ≤ k ∧ k < s) W sv x.shadow
/-- a row of blocks between two heaps -/
def RowN {α : Type} (sz : Nat) (rd : World → List Value → α → Prop) (base : Nat) (e : TypeId) (w0 : World) (w : World) (v : Value) (l : List α) : Prop := RowO sz rd base e (fun k => w0.heap.size ≤ k ∧ k < w.heap.size) w v l
theorem OwnAt.change {α : Type} {sz : Nat} {rd rd' : World → List Value → α → Prop} {base : Nat} {e : TypeId} {w w' : World} {v : Value} {l : List α} (h : OwnAt sz rd base e w v l) (ha : ∀ b, v.ownBlock = some b → w'.heap[b]? = w.heap[b]?) (hr : ∀ cs x, rd w cs x → rd' w' cs x) : OwnAt sz rd' base e w' v l := by
  obtain ⟨xss, h1, h2, h3⟩ := h
  exact ⟨xss, h1, fun i hi hi' => ⟨(h2 i hi hi').1, hr _ _ (h2 i hi hi').2⟩, ownsRow_agree h3 ha⟩
theorem ownE_mk {wr wz wa wk ws : World} {C : List Value} {x : Nd} {av kv sv : Value} (h0 : TakeS wr wz C) (ba : Bel wz wa) (xa : RowN 2 rdAtt wr.heap.size 121 wz wa av x.attrs) (bk : Bel wa wk) (xk : RowN 1 rdInt wr.heap.size 3 wa wk kv x.kids) (bs : Bel wk ws) (xs : RowN 1 rdInt wr.heap.size 3 wk ws sv x.shadow) (hS : TakeS wr ws C) :
    OwnE wr C x av kv sv (((ws.setCell ⟨wr.heap.size, 3, none⟩ av).setCell ⟨wr.heap.size, 5, none⟩ kv).setCell ⟨wr.heap.size, 7, none⟩ sv) := by
  have hp := h0.2.lt
  have hso : ∀ k, k ≠ wr.heap.size → (((ws.setCell ⟨wr.heap.size, 3, none⟩ av).setCell ⟨wr.heap.size, 5, none⟩ kv).setCell ⟨wr.heap.size, 7, none⟩ sv).heap[k]? = ws.heap[k]? := fun k hk => by
    rw [Below.heap_setCell _ _ _ k hk, Below.heap_setCell _ _ _ k hk, Below.heap_setCell _ _ _ k hk]
  have s1 := ba.size
  have s2 := bk.size
  have s3 := bs.size
  refine ⟨((hS.1.setCell _ _ _ (Nat.le_refl _)).setCell _ _ _ (Nat.le_refl _)).setCell _ _ _ (Nat.le_refl _), ((hS.2.set 3 av).set 5 kv).set 7 sv, wz.heap.size, wa.heap.size, wk.heap.size, ws.heap.size, hp, s1, s2, s3, by simp [World.setCell], ?_, ?_, ?_⟩
  · exact RowO.move xa still_att (fun b hb hl => by rw [hso b (by omega), bs.block b (by omega), bk.block b hl]) (fun b hb _ => hb)
  · exact RowO.move xk still_int (fun b hb hl => by rw [hso b (by omega), bs.block b hl]) (fun b hb _ => hb)
  · exact RowO.move xs still_int (fun b hb hl => by rw [hso b (by omega)]) (fun b hb _ => hb)
theorem RowO.base_le {α : Type} {sz : Nat} {rd : World → List Value → α → Prop} {base base' : Nat} {e : TypeId} {w : World} {v : Value} {l : List α} {Q Q' : Nat → Prop} (h : RowO sz rd base e Q w v l) (hb : base' ≤ base) (hq : ∀ b, Q b → Q' b) : RowO sz rd base' e Q' w v l := ⟨h.1.base_le hb, fun b hb' => hq b (h.2 b hb')⟩
theorem ownP_step {base : Nat} {wr wc : World} {o : Value} {d : Dc} {i : Nat} {X : Nd} {av kv sv : Value} {C : List Value} (h : OwnP base wr o d) (hb : base ≤ wr.heap.size) (hE : OwnE wr C X av kv sv wc) :
    ∃ lab : Nat → Nat, OwnAt 9 (rdOwn lab base) base 98 wc o d.zipIdx ∧ rdOwn lab base wc [.bool X.live, .string ⟨X.tag.toArray⟩, .string ⟨X.text.toArray⟩, av, .int .i64 X.up, kv, .bool X.hasS, sv, .bool X.inS] (X, i) ∧ (∀ b, o.ownBlock = some b → lab b = 0) ∧ ∀ b, wc.heap.size ≤ b → lab b = 0 := by
  obtain ⟨lab, h1, h2⟩ := h
  obtain ⟨hB, _, p, q, r, s, g1, g2, g3, g4, g5, xa, xk, xs⟩ := hE
  have hlt := fun b hb => (h1.lt b hb).2
  refine ⟨fun k => if k < wr.heap.size then lab k else if k < p then 0 else if k < q then 3 * i + 1 else if k < r then 3 * i + 2 else if k < s ∧ k < wc.heap.size then 3 * i + 3 else 0, ?_, ?_, ?_, ?_⟩
  · exact h1.change (fun b hb => hB.block b (hlt b hb)) (fun cs y hr => hr.move (fun b hl _ _ => ⟨hB.block b hl, if_pos hl⟩))
  · refine ⟨av, kv, sv, rfl, xa.base_le hb (fun b hb => ?_), xk.base_le hb (fun b hb => ?_), ?_⟩
    · simp only
      rw [if_neg (by omega), if_neg (by omega), if_pos (by omega)]
    · simp only
      rw [if_neg (by omega), if_neg (by omega), if_neg (by omega), if_pos (by omega)]
    · refine ⟨xs.1.base_le hb, fun b hb => ?_⟩
      have hq := xs.2 b hb
      have hl := (xs.1.lt b hb).2
      simp only
      rw [if_neg (by omega), if_neg (by omega), if_neg (by omega), if_neg (by omega), if_pos ⟨hq.2, hl⟩]
  · intro b hb
    simp only [hlt b hb, if_true]
    exact h2 b hb
  · intro b hb'
    have hs := hB.size
    simp only
    rw [if_neg (by omega), if_neg (by omega), if_neg (by omega), if_neg (by omega), if_neg (by omega)]
set_option maxRecDepth 100000 in
set_option maxHeartbeats 4000000 in
theorem domOwn_calls (m : Nat) (v : Value) (d : Dc) (w : World) (hv : DocAt m w v d) (hm : m ≤ w.heap.size) (hd : d.length ≤ 1000) (hA : ∀ x ∈ d, x.attrs.length ≤ 1000 ∧ x.kids.length ≤ 1000 ∧ x.shadow.length ≤ 1000) :
    Calls Try.prog 95 #[v] w (Rn w fun w' y => OwnP w.heap.size w' y d) := by
  obtain ⟨a, c, rfl, l1, l2⟩ := RowAt.form hv
  have HV := Lib.hid hv
  have HA := Lib.hid hA
  clear hv hA
  go_enter Try.func95, Try.ntmps95
  go_wp2
  go_loopw [8, 3] (fun z o wr => ∃ i : Nat, i ≤ d.length ∧ z = .int .i64 i ∧ OwnP w.heap.size wr o (d.take i) ∧ Bel w wr) (fun z _ _ => d.length - (intOf z).toNat)
  case atStart => exact ⟨0, by omega, rfl, ⟨fun _ => 0, OwnAt.nil _ _ _, fun b h => by cases h⟩, Bel.refl _⟩
  case round =>
    obtain ⟨i, hi, rfl, hO, hB⟩ := hrel
    have HO := Lib.hid hO
    have HB := Lib.hid hB
    have hD := HV.out.later hB hm
    have hmr := Nat.le_trans hm hB.size
    have hti : (d.take i).length = i := by rw [List.length_take]; omega
    obtain ⟨oa, oc, rfl, o1, o2⟩ := hO.form hti
    clear hO hB
    by_cases hlt : i < d.length
    · obtain ⟨b, off, cap', av, kv, sv, e1, -, -, -, hN⟩ := hD.node i hlt
      simp at e1
      obtain ⟨rfl, rfl⟩ := e1
      have c0 := hN.live
      have c1 := hN.tag
      have c2 := hN.text
      have c3 := hN.atts
      have c4 := hN.up
      have c5 := hN.kids
      have c6 := hN.hasS
      have c7 := hN.shadow
      have c8 := hN.inS
      have PA := Lib.hid hN.attsAt
      have PK := Lib.hid hN.kidsAt
      have PS := Lib.hid hN.shadowAt
      obtain ⟨la, lk, ls⟩ := HA.out _ (List.getElem_mem hlt)
      have hst : Hid (d.take (i + 1) = d.take i ++ [d[i]]) := Lib.hid (List.take_succ_eq_append_getElem hlt)
      clear hN hD
      generalize hX : d[i] = X at *
      obtain ⟨xl, xt, xx, xa, xu, xk, xh, xs, xi⟩ := X
      simp only at c0 c1 c2 c3 c4 c5 c6 c7 c8 PA PK PS la lk ls
      obtain ⟨ka, kc, rfl, k1, k2⟩ := RowAt.form PK.out
      obtain ⟨sa, sc, rfl, s1, s2⟩ := RowAt.form PS.out
      obtain ⟨aa, ac, rfl, a1, a2⟩ := RowAt.form PA.out
      go_upto_region 5 with fail
      obtain ⟨w0, hw0⟩ : ∃ w0 : World, w0 = wr.alloc (.cells #[.bool xl, .string ⟨xt.toArray⟩, .string ⟨xx.toArray⟩, .slice aa xa.length ac, .int .i64 xu, .slice ka xk.length kc, .bool xh, .slice sa xs.length sc, .bool xi] 98) := ⟨_, rfl⟩
      have hK : Blk w0 wr.heap.size [.bool xl, .string ⟨xt.toArray⟩, .string ⟨xx.toArray⟩, .slice aa xa.length ac, .int .i64 xu, .slice ka xk.length kc, .bool xh, .slice sa xs.length sc, .bool xi] 98 := by rw [hw0]; exact Blk.new' _ _ rfl _ _
      have hB0 : Bel wr w0 := by rw [hw0]; exact (Bel.refl wr).alloc _
      rw [← hw0]
      clear hw0 c0 c1 c2 c3 c4 c5 c6 c7 c8
      have hS0 : TakeS wr w0 _ := ⟨hB0, hK⟩
      generalize hC : [Value.bool xl, .string ⟨xt.toArray⟩, .string ⟨xx.toArray⟩, .slice aa xa.length ac, .int .i64 xu, .slice ka xk.length kc, .bool xh, .slice sa xs.length sc, .bool xi] = C at *
      have F : ∀ W, TakeS wr W C → W.cell? ⟨wr.heap.size, 3, none⟩ = some (.slice aa xa.length ac) ∧ W.cell? ⟨wr.heap.size, 5, none⟩ = some (.slice ka xk.length kc) ∧ W.cell? ⟨wr.heap.size, 7, none⟩ = some (.slice sa xs.length sc) ∧ W.frozen? ⟨wr.heap.size, 3, none⟩ = false ∧ W.frozen? ⟨wr.heap.size, 5, none⟩ = false ∧ W.frozen? ⟨wr.heap.size, 7, none⟩ = false := by
        intro W h
        refine ⟨?_, ?_, ?_, h.2.frozen 3, h.2.frozen 5, h.2.frozen 7⟩
        · rw [h.2.cell 3, ← hC]; rfl
        · rw [h.2.cell 5, ← hC]; rfl
        · rw [h.2.cell 7, ← hC]; rfl
      obtain ⟨q3, q5, q7, f3, f5, f7⟩ := F w0 hS0
      have cA : Hid (∀ W, TakeS wr W C → Calls Try.prog 139 #[.slice aa xa.length ac] W (fun e W' => ∃ a n c, e = .returned (.slice a n c) ∧ TakeS wr W' C ∧ Bel W W' ∧ RowN 2 rdAtt wr.heap.size 121 W W' (.slice a n c) xa)) := Lib.hid (by
        intro W hW
        refine (attsClone_calls m _ xa _ (RowAt.later (RowAt.mono PA.out (fun _ h => h) (fun _ _ _ h => h)) still_att hW.1 hmr) (Nat.le_trans hmr hW.1.size) (by omega)).mono ?_
        rintro e w1 ⟨b1, x1, rfl, o1⟩
        obtain ⟨y1, z1, rfl, _, _⟩ := RowAt.form o1.read
        exact ⟨_, _, _, rfl, hW.bel b1, b1, o1.base_le hW.1.size, fun k hk => o1.lt k hk⟩)
      have cK : Hid (∀ W, TakeS wr W C → Calls Try.prog 111 #[.slice ka xk.length kc] W (fun e W' => ∃ a n c, e = .returned (.slice a n c) ∧ TakeS wr W' C ∧ Bel W W' ∧ RowN 1 rdInt wr.heap.size 3 W W' (.slice a n c) xk)) := Lib.hid (by
        intro W hW
        refine (intsClone_calls m _ xk _ (RowAt.later PK.out still_int hW.1 hmr) (Nat.le_trans hmr hW.1.size) (by omega)).mono ?_
        rintro e w1 ⟨b1, x1, rfl, o1⟩
        obtain ⟨y1, z1, rfl, _, _⟩ := RowAt.form o1.read
        exact ⟨_, _, _, rfl, hW.bel b1, b1, o1.base_le hW.1.size, fun k hk => o1.lt k hk⟩)
      have cS : Hid (∀ W, TakeS wr W C → Calls Try.prog 111 #[.slice sa xs.length sc] W (fun e W' => ∃ a n c, e = .returned (.slice a n c) ∧ TakeS wr W' C ∧ Bel W W' ∧ RowN 1 rdInt wr.heap.size 3 W W' (.slice a n c) xs)) := Lib.hid (by
        intro W hW
        refine (intsClone_calls m _ xs _ (RowAt.later PS.out still_int hW.1 hmr) (Nat.le_trans hmr hW.1.size) (by omega)).mono ?_
        rintro e w1 ⟨b1, x1, rfl, o1⟩
        obtain ⟨y1, z1, rfl, _, _⟩ := RowAt.form o1.read
        exact ⟨_, _, _, rfl, hW.bel b1, b1, o1.base_le hW.1.size, fun k hk => o1.lt k hk⟩)
      have HS0 := Lib.hid hS0.drew
      have HF := Lib.hid F
      clear hS0 F hB0 hK
      go_cut [] from 12 to 23 (fun w3 => ∃ a1 n1 c1 a2 n2 c2 a3 n3 c3, OwnE wr C ⟨xl, xt, xx, xa, xu, xk, xh, xs, xi⟩ (.slice a1 n1 c1) (.slice a2 n2 c2) (.slice a3 n3 c3) w3)
      case first =>
        go_region_with (first
          | (go_at_call 139; refine (cA.out _ ?_).mono ?_; (first | exact HS1.out | exact HS0.out); rintro e wa ⟨ya, na, za, rfl, hS1, b1, o1⟩; obtain ⟨q3, q5, q7, f3, f5, f7⟩ := HF.out _ hS1; have HS1 := Lib.hid hS1; have BA := Lib.hid b1; have XA := Lib.hid o1; clear hS1 b1 o1)
          | (go_at_call_of 111 (Value.slice ka xk.length kc); refine (cK.out _ ?_).mono ?_; (first | exact HS1.out | exact HS0.out); rintro e wk ⟨yk, nk, zk, rfl, hS1, b1, o1⟩; obtain ⟨q3, q5, q7, f3, f5, f7⟩ := HF.out _ hS1; have HS1 := Lib.hid hS1; have BK := Lib.hid b1; have XK := Lib.hid o1; clear hS1 b1 o1)
          | (go_at_call_of 111 (Value.slice sa xs.length sc); refine (cS.out _ ?_).mono ?_; (first | exact HS1.out | exact HS0.out); rintro e ws ⟨ys, ns, zs, rfl, hS1, b1, o1⟩; obtain ⟨q3, q5, q7, f3, f5, f7⟩ := HF.out _ hS1; have HS1 := Lib.hid hS1; have BS := Lib.hid b1; have XS := Lib.hid o1; clear hS1 b1 o1))
        all_goals
          go_wp2_with fail
          go_meet
          exact ⟨ya, na, za, yk, nk, zk, ys, ns, zs, ownE_mk HS0.out BA.out XA.out BK.out XK.out BS.out XS.out HS1.out⟩
      case rest =>
        obtain ⟨ya, na, za, yk, nk, zk, ys, ns, zs, hE⟩ := hcut
        clear q3 q5 q7 f3 f5 f7 HS0 HF cA cK cS
        obtain ⟨lab, g1, g2, g3, g4⟩ := ownP_step (i := i) HO.out HB.out.size hE
        have e1 := hE.1
        have e2 := hE.2.1
        rw [← hC] at e2
        have n0 := e2.cell 0
        have n1 := e2.cell 1
        have n2 := e2.cell 2
        have n3 := e2.cell 3
        have n4 := e2.cell 4
        have n5 := e2.cell 5
        have n6 := e2.cell 6
        have n7 := e2.cell 7
        have n8 := e2.cell 8
        simp at n0 n1 n2 n3 n4 n5 n6 n7 n8
        have HE1 := Lib.hid (Bel.then HB.out e1)
        have HO1 := Lib.hid g1
        have HR1 := Lib.hid g2
        have HL1 := Lib.hid g3
        have HL2 := Lib.hid g4
        have HS1 : Hid (w.heap.size ≤ wc.heap.size) := Lib.hid HE1.out.size
        have hzl : (d.take i).zipIdx.length = i := by simp; omega
        clear hE e1 e2 g1 g2 g3 g4
        go_wp2_with (at_builtin; go_must (refine wpl_append1K rfl _ _ _ rfl slt_doc (by decide) (rd := rdOwn lab w.heap.size) (v := .slice oa i oc) ?hst one_own (base := w.heap.size) rfl HO1.out rfl ?hgs (⟨xl, xt, xx, xa, xu, xk, xh, xs, xi⟩, i) ⟨rfl, HR1.out⟩ ?hby ?hmx HS1.out ?_); (case hst => exact fun w' cs y hg hr => hr.move (fun b hb h1 h2 => ⟨hg.block b hb (fun e => by have := HL1.out b e.symm; omega), rfl⟩)); (case hgs => rfl); (case hby => rw [hzl]; omega); (case hmx => rw [hzl]; omega); intro v4 w4 o4 g4 f4; have O4 := Lib.hid o4; have G4 := Lib.hid g4; have F4 := Lib.hid f4; clear o4 g4 f4)
        go_roundw
        case rel =>
          refine ⟨i + 1, by omega, by go_num, ⟨lab, by rw [hst.out, zip_snoc hti]; exact O4.out, fun b hb => ?_⟩, Below.grown HE1.out G4.out HE1.out.size (fun k hk => (HO1.out.lt k hk).1)⟩
          rcases F4.out with e | ⟨k, e, hk⟩
          · rw [e] at hb; exact HL1.out b hb
          · rw [e] at hb; cases hb; exact HL2.out _ hk
        case measure => simp [intOf]; omega
    · have hT : d.take i = d := List.take_of_length_le (by omega)
      rw [hT] at HO
      go_wp2
      go_ret
      exact ⟨HB.out, _, rfl, HO.out⟩
end Go.Proofs.Ytajadfhkcefioaa
