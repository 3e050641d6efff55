/- A new node: the document's answer, walked. -/
import Derived.Test.YtklbmkaomojciaaGreatRefPutW
import Derived.Test.YtklbmkaomojciaaGreatMem
import Derived.OwnWalk
import Derived.Lib.ConvBytes
set_option maxRecDepth 100000
set_option maxHeartbeats 4000000
namespace Go.Proofs.YtklbmkaomojciaaGreat
open Go.RowKit
theorem free_eq {d : Dc} {j : Nat} (hj : j <= d.length) (h1 : ∀ q (h : q < d.length), q < j -> d[q].live = true) (h2 : ∀ h : j < d.length, d[j].live = false) : qJb d = j := by
 unfold qJb
 rcases Nat.lt_or_ge j d.length with h | h
 · rw [List.findIdx_eq h]
   exact ⟨by simp [h2 h], fun q hq => by simp [h1 q (by omega) hq]⟩
 · obtain rfl : j = d.length := by omega
   rw [List.findIdx_eq_length]
   intro x hx
   obtain ⟨q, hq, rfl⟩ := List.getElem_of_mem hx
   simp [h1 q hq hq]
theorem zKz {d : Dc} {x : Nd} {t before : Int} {sh : Bool} (h : 60 <= qJb d) : qZ4 d x t before sh = (5, 0, []) := by unfold qZ4; rw [if_pos h]
theorem zYn {d : Dc} {x : Nd} {t before : Int} {sh : Bool} (h : qJb d < 60) : qZ4 d x t before sh = ((putM (qQ6 d (qJb d) { x with live := true, up := t, inS := sh }) (qJb d) t before sh).1, (qJb d : Int), (putM (qQ6 d (qJb d) { x with live := true, up := t, inS := sh }) (qJb d) t before sh).2) := by
 unfold qZ4; rw [if_neg (by omega)]
theorem qKg (m : Nat) (v : Value) (d : Dc) (x : Nd) (av kv sv : Value) (t before : Int) (sh : Bool) (w : World) (hv : qQk m w v d) (hm : m <= w.heap.size) (hd : d.length <= 900)
 (hA : qJ8 m w av x.attrs) (hK : qZh m w kv x.kids) (hS : qZh m w sv x.shadow)
 (ht : isM (qQ6 d (qJb d) { x with live := true, up := t, inS := sh }) t false = true) (hlen : (listM (nd (qQ6 d (qJb d) { x with live := true, up := t, inS := sh }) t) sh).length <= 12)
 (hg : (listM (nd (qQ6 d (qJb d) { x with live := true, up := t, inS := sh }) t) sh).length < 12 -> qG5 (putD (qQ6 d (qJb d) { x with live := true, up := t, inS := sh }) (qJb d) t before sh) 100 (qJb d)) :
 Calls Tryz.prog 117 #[v, ndV x av kv sv, .int .i64 t, .int .i64 before, .bool sh] w (Rn w fun w' y => ∃ u, y = .tuple #[u, .int .i64 (qZ4 d x t before sh).2.1, .int .i64 (qZ4 d x t before sh).1] /\ qQk w'.heap.size w' u (qZ4 d x t before sh).2.2) := by
 obtain ⟨va, vc, rfl, v1, v2⟩ := qQa.form hv
 obtain ⟨aa, ac, rfl, a1, a2⟩ := qQa.form hA
 obtain ⟨ka, kc, rfl, k1, k2⟩ := qQa.form hK
 obtain ⟨sa, sc, rfl, s1, s2⟩ := qQa.form hS
 have HV := lH hv
 have HA := lH hA
 have HK := lH hK
 have HS := lH hS
 have HT := lH ht
 have HLN := lH hlen
 have HG := lH hg
 clear hv hA hK hS ht hlen hg
 unfold ndV
 go_enter Tryz.func117, Tryz.ntmps117
 go_wp2
 go_loop [13] (fun i => ∃ j : Nat, j <= d.length /\ i = .int .i64 j /\ ∀ q (h : q < d.length), q < j -> d[q].live = true) (fun i => d.length - (intOf i).toNat)
 case atStart => exact ⟨0, by omega, rfl, by intro q h h2; omega⟩
 case round =>
  obtain ⟨j, hj, rfl, hF⟩ := hrel
  have HF := lH hF
  clear hF
  have hB0 : Bel w (w.alloc (.cells #[.bool x.live, .string ⟨x.tag.toArray⟩, .string ⟨x.text.toArray⟩, .slice aa x.attrs.length ac, .int .i64 x.up, .slice ka x.kids.length kc, .bool x.hasS, .slice sa x.shadow.length sc, .bool x.inS] 65)) := (Bel.refl w).alloc _
  have hcase : (∃ h : j < d.length, d[j].live = true) ∨ (∀ h : j < d.length, d[j].live = false) := by
   by_cases h : j < d.length
   · cases hl : d[j].live with
     | true => exact .inl ⟨h, hl⟩
     | false => exact .inr (fun _ => hl)
   · exact .inr (fun h' => absurd h' h)
  rcases hcase with ⟨hlt, hl⟩ | hl
  · obtain ⟨b, off, cap', av, kv, sv, e1, -, -, hbb, hN⟩ := HV.out.node j hlt
    simp at e1
    obtain ⟨rfl, rfl⟩ := e1
    have c1 := (Bel.cells hB0 _ _ (by omega)).trans hN.live
    rw [hl] at c1
    clear hN hB0
    have HL := lH hl
    clear hl
    go_wp2
    go_round
    case rel => exact ⟨j + 1, by omega, by go_num, fun q h hq => by
     by_cases e : q = j
     · subst e; exact HL.out
     · exact HF.out q h (by omega)⟩
    case measure => simp [intOf]; omega
  · have HE := lH (free_eq hj HF.out hl)
    have c1 : ∀ h : j < d.length, ∃ b off, Value.slice va d.length vc = .slice (some ⟨b, off, none⟩) d.length vc /\ (w.alloc (.cells #[.bool x.live, .string ⟨x.tag.toArray⟩, .string ⟨x.text.toArray⟩, .slice aa x.attrs.length ac, .int .i64 x.up, .slice ka x.kids.length kc, .bool x.hasS, .slice sa x.shadow.length sc, .bool x.inS] 65)).cell? ⟨b, off + j * 9, none⟩ = some (.bool false) := by
     intro h
     obtain ⟨b, off, cap', av, kv, sv, e1, -, -, hbb, hN⟩ := HV.out.node j h
     simp at e1
     obtain ⟨e1, e2⟩ := e1
     refine ⟨b, off, by rw [e1], (Bel.cells hB0 _ _ (by omega)).trans ?_⟩
     rw [hN.live, hl h]
    have HB0 := lH hB0
    have HSB : ∃ sb, Hid (sb = sh) := ⟨sh, lH rfl⟩
    clear hl hB0
    by_cases h60 : 60 <= j
    · have HR := lH (zKz (x := x) (t := t) (before := before) (sh := sh) (by rw [HE.out]; exact h60))
      by_cases hlt : j < d.length
      · obtain ⟨b, off, e1, c1⟩ := c1 hlt
        simp at e1
        obtain rfl := e1
        go_wp2
        go_ret3
        exact ⟨HB0.out, _, rfl, _, by rw [HR.out]; rfl, by rw [HR.out]; exact qQa.nil⟩
      · clear c1
        go_wp2
        go_ret3
        exact ⟨HB0.out, _, rfl, _, by rw [HR.out]; rfl, by rw [HR.out]; exact qQa.nil⟩
    · have HR := lH (zYn (x := x) (t := t) (before := before) (sh := sh) (by rw [HE.out]; omega))
      rw [HE.out] at HR HT HLN HG
      have hBX : Bel w (w.alloc (.cells #[.bool true, .string ⟨x.tag.toArray⟩, .string ⟨x.text.toArray⟩, .slice aa x.attrs.length ac, .int .i64 t, .slice ka x.kids.length kc, .bool x.hasS, .slice sa x.shadow.length sc, .bool sh] 65)) := (Bel.refl w).alloc _
      have hx1 : ({ x with live := true, up := t, inS := sh } : Nd).attrs = x.attrs := rfl
      have cW := lH (qZt m _ d j { x with live := true, up := t, inS := sh } _ _ _ _ (HV.out.later hBX hm) (Nat.le_trans hm hBX.size) (by omega) hj (qQa.later HA.out qQr hBX hm) (qQa.later HK.out qQd hBX hm) (qQa.later HS.out qQd hBX hm))
      have hlen1 : (qQ6 d j { x with live := true, up := t, inS := sh }).length <= 1000 := by rw [qZy]; split <;> omega
      have HBX := lH hBX
      clear hBX hx1
      generalize hD : qQ6 d j { x with live := true, up := t, inS := sh } = D at *
      by_cases hlt : j < d.length
      · obtain ⟨b, off, e1, c1⟩ := c1 hlt
        simp at e1
        obtain rfl := e1
        go_wp2_with (first
 | (go_at_call 114; refine cW.out.mono ?_; rintro e w4 ⟨b4, x4, rfl, o4⟩; obtain ⟨y4, z4, rfl, _, _⟩ := qQa.form o4; have HB4 := lH (Bel.then HBX.out b4); have cP := lH (qY1 w4.heap.size _ D j t before sh w4 o4 (Nat.le_refl _) hlen1 HT.out HLN.out HG.out); clear b4 o4)
 | (go_at_call 113; refine cP.out.mono ?_; rintro e w5 ⟨b5, x5, rfl, u5, rfl, o5⟩; obtain ⟨y5, z5, rfl, _, _⟩ := qQa.form o5; have HB5 := lH (Bel.then HB4.out b5); have HD5 := lH o5; clear b5 o5))
        go_ret3
        exact ⟨HB5.out, _, rfl, _, by rw [HR.out]; rfl, by rw [HR.out]; exact HD5.out⟩
      · clear c1
        go_wp2_with (first
 | (go_at_call 114; refine cW.out.mono ?_; rintro e w4 ⟨b4, x4, rfl, o4⟩; obtain ⟨y4, z4, rfl, _, _⟩ := qQa.form o4; have HB4 := lH (Bel.then HBX.out b4); have cP := lH (qY1 w4.heap.size _ D j t before sh w4 o4 (Nat.le_refl _) hlen1 HT.out HLN.out HG.out); clear b4 o4)
 | (go_at_call 113; refine cP.out.mono ?_; rintro e w5 ⟨b5, x5, rfl, u5, rfl, o5⟩; obtain ⟨y5, z5, rfl, _, _⟩ := qQa.form o5; have HB5 := lH (Bel.then HB4.out b5); have HD5 := lH o5; clear b5 o5))
        go_ret3
        exact ⟨HB5.out, _, rfl, _, by rw [HR.out]; rfl, by rw [HR.out]; exact HD5.out⟩
end Go.Proofs.YtklbmkaomojciaaGreat
namespace Go.Proofs.YtklbmkaomojciaaGreat
open Go.RowKit
def qJt (w : World) (g : Nat) (l : List UInt8) : Prop := ∀ j (h : j < l.length), w.cell? ⟨g, j, none⟩ = some (.int .u8 (l[j].toNat : Int)) /\ w.frozen? ⟨g, j, none⟩ = false
theorem qJt.cell {w : World} {g : Nat} {l : List UInt8} (h : qJt w g l) {j : Nat} (hj : j < l.length) : w.cell? ⟨g, j, none⟩ = some (.int .u8 (l[j].toNat : Int)) := (h j hj).1
theorem qJt.mark {w : World} {g : Nat} {l : List UInt8} (h : qJt w g l) {j : Nat} (hj : j < l.length) : w.frozen? ⟨g, j, none⟩ = false := (h j hj).2
theorem qJt.agree {w w' : World} {g : Nat} {l : List UInt8} (h : qJt w g l) (ha : w'.heap[g]? = w.heap[g]?) : qJt w' g l :=
 fun j hj => ⟨(World.cell?_of_block (w := w) (a := ⟨g, j, none⟩) ha).trans (h j hj).1, (World.frozen?_of_block (w := w) (a := ⟨g, j, none⟩) ha).trans (h j hj).2⟩
theorem qFf (w : World) (a : Addr) (v : Value) (b : Addr) : (w.setCell a v).frozen? b = w.frozen? b := by
 unfold World.frozen? World.setCell
 simp only [Array.getElem?_modify]
 by_cases e : a.block = b.block
 · rw [if_pos e]
   cases w.heap[b.block]? with
   | none => rfl
   | some o => cases o <;> rfl
 · rw [if_neg e]
theorem qJt.store {w : World} {g : Nat} {l : List UInt8} (h : qJt w g l) {k : Nat} (hk : k < l.length) (c : UInt8) (v : Value) (hv : v = .int .u8 (c.toNat : Int)) : qJt (w.setCell ⟨g, k, none⟩ v) g (l.set k c) := by
 subst hv
 intro j hj
 have hj' : j < l.length := by simpa using hj
 refine ⟨?_, by rw [qFf]; exact (h j hj').2⟩
 by_cases e : j = k
 · subst e
   rw [List.getElem_set_self]
   have := h.cell hk
   unfold World.cell? at this ⊢
   unfold World.setCell
   simp only [Array.getElem?_modify, if_true] at this ⊢
   cases ho : w.heap[g]? with
   | none => rw [ho] at this; cases this
   | some o =>
     rw [ho] at this
     cases o <;> simp_all
     rename_i C _ _
     have hlt : j < C.size := by
      rcases Nat.lt_or_ge j C.size with h | h
      · exact h
      · rw [Array.getElem?_eq_none h] at this; cases this
     simp [hlt]
 · rw [List.getElem_set_ne (by omega)]
   have := h.cell hj'
   rw [<- this]
   unfold World.cell? World.setCell
   simp only [Array.getElem?_modify, if_true]
   cases ho : w.heap[g]? with
   | none => rfl
   | some o =>
     cases o <;> simp
     rw [Array.getElem?_setIfInBounds_ne (by omega)]
theorem qHk {P : Program} {w : World} {ops : Array Oper} {rest : List Oper} {o : Oper} {a : Act} {Q : Exit -> Act -> World -> Prop} (hg : o.guard = none)
 (src dst : TypeId) (x : Operand) (ho : o.op = .convert src dst x) {e : TypeId} (hs : P.underlying src = some .string) (hd : P.underlying dst = some (.slice e)) (he : P.underlying e = some (.int .u8))
 {l : List UInt8} (hx : a.eval x = .string ⟨l.toArray⟩)
 (h : ∀ cap w', qJt w' w.heap.size l -> w.grownBy w' none -> w'.heap.size = w.heap.size + 1 -> wpList P ops Q rest (a.put o.dst (.slice (some ⟨w.heap.size, 0, none⟩) l.length cap)) w') : wpList P ops Q (o :: rest) a w := by
 refine wpList_plain hg fun K hK => ?_
 have hrun := Lib.run_convert_string_bytes (P := P) w src dst e ⟨l.toArray⟩ hs hd he
 have hsz : (ByteArray.mk l.toArray).size = l.length := by simp [ByteArray.size]
 unfold Oper.wp execOp
 simp only [ho, Sem.run_bind, hx, hrun, Result.andThen_ok]
 rw [hsz]
 refine hK _ _ (h _ _ ?_ ⟨?_, ?_, ?_, ?_, ?_⟩ (Lib.bytesWorld_size w e _))
 · intro j hj
   refine ⟨?_, ?_⟩
   · rw [Lib.bytesWorld_cell w e ⟨l.toArray⟩ j (by rw [hsz]; exact hj)]
     simp [List.getD, List.getElem?_eq_getElem hj]
   · unfold World.frozen?
     rw [show (Lib.bytesWorld w e ⟨l.toArray⟩).heap[(⟨w.heap.size, j, none⟩ : Addr).block]? = _ from Lib.bytesWorld_at_new w e ⟨l.toArray⟩]
     have : l.length <= (Lib.bytesCells w e ⟨l.toArray⟩).size := by unfold Lib.bytesCells; simp
     simp
     omega
 · rfl
 · rfl
 · rfl
 · rw [Lib.bytesWorld_size]; omega
 · intro k hk _
   exact Lib.bytesWorld_at_old w e _ k hk
theorem qYp {P : Program} {w : World} {ops : Array Oper} {rest : List Oper} {o : Oper} {a : Act} {Q : Exit -> Act -> World -> Prop} (hg : o.guard = none)
 (src dst : TypeId) (x : Operand) (ho : o.op = .convert src dst x) {e : TypeId} (hs : P.underlying src = some (.slice e)) (he : P.underlying e = some (.int .u8)) (hd : P.underlying dst = some .string)
 {l : List UInt8} {g n cap : Nat} (hx : a.eval x = .slice (some ⟨g, 0, none⟩) n cap) (hn : n = l.length) (hc : ∀ j (h : j < l.length), w.cell? ⟨g, j, none⟩ = some (.int .u8 (l[j].toNat : Int)))
 (h : wpList P ops Q rest (a.put o.dst (.string ⟨l.toArray⟩)) w) : wpList P ops Q (o :: rest) a w := by
 subst hn
 refine wpList_plain hg fun K hK => ?_
 have hrun := run_convert_bytes_back (P := P) w src dst e ⟨g, 0, none⟩ cap l hs he hd (fun j hj => by
  have hadd : (⟨g, 0, none⟩ : Addr).add j = ⟨g, j, none⟩ := by unfold Addr.add; split <;> simp_all
  rw [hadd]; exact hc j hj)
 unfold Oper.wp execOp
 simp only [ho, Sem.run_bind, hx, hrun, Result.andThen_ok]
 exact hK _ _ h
theorem qBs (w : World) (x : UInt8) (v : Value) (hv : v = .int .u8 (x.toNat : Int)) (e : TypeId) : ∀ j (h : j < [x].length), (w.alloc (.cells #[v] e)).cell? ⟨w.heap.size, j, none⟩ = some (.int .u8 ([x][j].toNat : Int)) := by
 intro j h
 obtain rfl : j = 0 := by simpa using h
 rw [cell_of_row _ w.heap.size _ _ e (0, 0) (heap_alloc_new w _), hv]
 rfl
end Go.Proofs.YtklbmkaomojciaaGreat
