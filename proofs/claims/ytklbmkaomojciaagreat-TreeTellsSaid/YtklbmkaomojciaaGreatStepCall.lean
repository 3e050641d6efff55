/- A change, with its end cut off; a document built by changes: the document's answer, walked. -/
import Derived.Test.YtklbmkaomojciaaGreatRefChange
import Derived.Test.YtklbmkaomojciaaGreatRefAttrs
import Derived.Deep.Slices
import Derived.SizedLaws
import Derived.Shelf.Abstract
set_option maxRecDepth 100000
set_option maxHeartbeats 4000000
namespace Go.Proofs.YtklbmkaomojciaaGreat
open Go.RowKit
theorem zWx {d : Dc} {j : Nat} (h : j < d.length) : lastF (d.take (j + 1)) 0 1 = if d[j].live && decide (lastF (d.take j) 0 1 <= j) then j + 1 else lastF (d.take j) 0 1 := by
 rw [List.take_succ_eq_append_getElem h, zX2]
 simp [List.length_take, Nat.min_eq_left (Nat.le_of_lt h)]
theorem qDh (m : Nat) (v : Value) (d : Dc) (x : Chg) (w : World) (hv : qQm m w v d) (hm : m <= w.heap.size) (g : Good d) (hn : x.name.length <= 9223372036854775807) (hl : x.value.length <= 9223372036854775807) :
 Calls Tryz.prog 22 #[v, chgV x] w (qQh w (qJ8 d x)) := by
 obtain ⟨va, vc, rfl, v1, v2⟩ := qQa.form hv
 have hB0 : Bel w (w.alloc (.cells #[.int .i64 x.kind, .int .i64 x.node, .int .i64 x.dest, .int .i64 x.before, .string ⟨x.name.toArray⟩, .string ⟨x.value.toArray⟩] 40)) := (Bel.refl w).alloc _
 have HV := lH hv
 have cI := lH (qQ6 m _ d x.node false _ (hv.later hB0 hm))
 have HB0 := lH hB0
 have HG := lH g
 by_cases c1 : x.kind < 1
 · have HR : Hid (qJ8 d x = (1, 0, [])) := lH (by unfold qJ8; rw [if_pos (by simp [c1])])
   clear hv hB0 g
   unfold chgV
   go_enter Tryz.func22, Tryz.ntmps22
   go_wp2
   go_ret3
   exact qQh.no HR.out HB0.out
 by_cases c2 : 10 < x.kind
 · have HR : Hid (qJ8 d x = (1, 0, [])) := lH (by unfold qJ8; rw [if_pos (by simp [c2])])
   clear hv hB0 g
   unfold chgV
   go_enter Tryz.func22, Tryz.ntmps22
   go_wp2
   go_ret3
   exact qQh.no HR.out HB0.out
 cases hi : isM d x.node false with
 | false =>
   rw [hi] at cI
   have HR : Hid (qJ8 d x = (6, 0, [])) := lH (by unfold qJ8; rw [if_neg (by simp; omega), if_pos (by simp [hi])])
   clear hv hB0 g
   unfold chgV
   go_enter Tryz.func22, Tryz.ntmps22
   go_wp2_with (go_at_call 28; refine cI.out.mono ?_; rintro e w1 ⟨rfl, rfl⟩)
   go_ret3
   exact qQh.no HR.out HB0.out
 | true =>
   rw [hi] at cI
   have cC := lH (qGt m _ d x _ (hv.later hB0 hm) (Nat.le_trans hm hB0.size) g hi hn hl (by omega) (by omega))
   have hch := fun h => qGs (x := x) g hi h
   have HCH := lH hch
   have HR1 : (qJv d x).1 ≠ 0 -> Hid (qJ8 d x = ((qJv d x).1, 0, [])) := fun h => lH (by unfold qJ8; rw [if_neg (by simp; omega), if_neg (by simp [hi]), if_neg h])
   have HR2 : (qJv d x).1 = 0 -> Hid (qJ8 d x = (0, (qJv d x).2.1, qBh (qJv d x).2.2)) := fun h => lH (by unfold qJ8; rw [if_neg (by simp; omega), if_neg (by simp [hi]), if_pos h])
   clear hv hB0 g hch hi
   generalize qJv d x = r at *
   obtain ⟨e, n, D⟩ := r
   simp only at HR1 HR2 HCH
   by_cases he : e = 0
   · have HR := HR2 he
     obtain ⟨⟨rk, gD⟩, hlenD⟩ := HCH.out he
     have hpos := gD.pos
     subst he
     have hle1 := zZb D 0 1 (by omega)
     have hT : Hid (qBh D = D.take (lastF D 0 1)) := lH rfl
     clear HR1 HR2 HCH gD
     unfold chgV
     go_enter Tryz.func22, Tryz.ntmps22
     go_wp2_with (first
 | (go_at_call 28; refine cI.out.mono ?_; rintro e w1 ⟨rfl, rfl⟩)
 | (go_at_call 68; refine cC.out.mono ?_; rintro e w1 ⟨b1, x1, rfl, u1, rfl, o1⟩; obtain ⟨yb, yo, yc, _, _, _, rfl, hc1, hc2, _, _⟩ := qQm.node o1 0 hpos; have HB1 := lH (Bel.then HB0.out b1); have HD1 := lH o1; clear b1 o1))
     go_loop [37, 10] (fun i s => ∃ j : Nat, j <= D.length /\ i = .int .i64 j /\ s = .int .i64 (lastF (D.take j) 0 1 : Nat)) (fun i _ => D.length - (intOf i).toNat)
     case atStart => exact ⟨0, by omega, rfl, rfl⟩
     case round =>
      obtain ⟨j, hj, rfl, rfl⟩ := hrel
      by_cases hlt : j < D.length
      · obtain ⟨b, off, cap', av, kv, sv, e1, -, -, hbb, hN⟩ := HD1.out.node j hlt
        simp at e1
        obtain ⟨⟨rfl, rfl⟩, rfl⟩ := e1
        have c1 := hN.live
        have HS := lH (zWx hlt)
        clear hN
        have hql := zZb (D.take j) 0 1
        generalize lastF (D.take j) 0 1 = q at *
        cases hl : D[j].live with
        | false =>
          rw [hl] at c1 HS
          clear hl
          go_wp2
          go_round
          case rel => exact ⟨j + 1, by omega, by go_num, by rw [HS.out]; rfl⟩
          case measure => simp [intOf]; omega
        | true =>
          rw [hl] at c1 HS
          clear hl
          by_cases hq : q <= j
          · have hq2 : decide ((q : Int) <= (j : Int)) = true := by simp; omega
            go_wp2
            go_round
            case rel => exact ⟨j + 1, by omega, by go_num, by rw [HS.out, if_pos (by simp [hq])]; go_num⟩
            case measure => simp [intOf]; omega
          · have hq2 : decide ((q : Int) <= (j : Int)) = false := by simp; omega
            go_wp2
            go_round
            case rel => exact ⟨j + 1, by omega, by go_num, by rw [HS.out, if_neg (by simp [hq])]⟩
            case measure => simp [intOf]; omega
      · have hT2 : D.take j = D := List.take_of_length_le (by omega)
        rw [hT2]
        clear hT2
        have hR3 := lH (qQa.take HD1.out (lastF D 0 1) (by omega))
        have hle2 : lastF D 0 1 <= yc := by omega
        rw [hT.out] at HR
        clear hT
        generalize lastF D 0 1 = q at *
        go_wp2
        go_ret3
        exact qQh.yes HR.out HB1.out hR3.out
   · have HR := HR1 he
     have hne : (e != 0) = true := by simpa using he
     clear HR1 HR2 HCH
     unfold chgV
     go_enter Tryz.func22, Tryz.ntmps22
     go_wp2_with (first
 | (go_at_call 28; refine cI.out.mono ?_; rintro e w1 ⟨rfl, rfl⟩)
 | (go_at_call 68; refine cC.out.mono ?_; rintro e w1 ⟨b1, x1, rfl, u1, rfl, o1⟩; obtain ⟨y1, z1, rfl, _, _⟩ := qQa.form o1; have HB1 := lH (Bel.then HB0.out b1); clear b1 o1))
     go_ret3
     exact qQh.no HR.out HB1.out
def rdChg : World -> List Value -> Chg -> Prop := fun _ cs x => cs = [.int .i64 x.kind, .int .i64 x.node, .int .i64 x.dest, .int .i64 x.before, .string ⟨x.name.toArray⟩, .string ⟨x.value.toArray⟩]
theorem zZ9 : qHs rdChg := fun _ _ _ _ h => h
abbrev zJk (n : Nat) (w : World) (v : Value) (l : List Chg) : Prop := qQa 6 rdChg (· < n) w v l
theorem zWv {m : Nat} {w : World} {b o len cap : Nat} {l : List Chg} (h : zJk m w (.slice (some ⟨b, o, none⟩) len cap) l) (i : Nat) (hi : i < l.length) :
 w.cell? ⟨b, o + i * 6, none⟩ = some (.int .i64 l[i].kind) /\ w.cell? ⟨b, o + i * 6 + 1, none⟩ = some (.int .i64 l[i].node) /\ w.cell? ⟨b, o + i * 6 + 2, none⟩ = some (.int .i64 l[i].dest) /\ w.cell? ⟨b, o + i * 6 + 3, none⟩ = some (.int .i64 l[i].before) /\
 w.cell? ⟨b, o + i * 6 + 4, none⟩ = some (.string ⟨l[i].name.toArray⟩) /\ w.cell? ⟨b, o + i * 6 + 5, none⟩ = some (.string ⟨l[i].value.toArray⟩) := by
 obtain ⟨b', off', cap', cs, h1, _, h2, h3, h4⟩ := qQa.elem h i hi
 simp at h1
 obtain ⟨⟨rfl, rfl⟩, _, _⟩ := h1
 cases h4
 exact ⟨by simpa using h3.at 0 (by simp), by simpa using h3.at 1 (by simp), by simpa using h3.at 2 (by simp), by simpa using h3.at 3 (by simp), by simpa using h3.at 4 (by simp), by simpa using h3.at 5 (by simp)⟩
theorem root_at (w : World) (g : Nat) (hg : g = w.heap.size) : qQm (g + 1) (w.alloc (.cells #[.bool true, .string ⟨#[109, 97, 105, 110]⟩, .string ⟨#[]⟩, .slice none 0 0, .int .i64 (-1), .slice none 0 0, .bool false, .slice none 0 0, .bool false] 65)) (.slice (some ⟨g, 0, none⟩) 1 1) rootD := by
 have hb := Blk.new' w g hg #[.bool true, .string ⟨#[109, 97, 105, 110]⟩, .string ⟨#[]⟩, .slice none 0 0, .int .i64 (-1), .slice none 0 0, .bool false, .slice none 0 0, .bool false] 65
 refine .inr ⟨g, 0, 1, rfl, by decide, by omega, fun i hi => ?_⟩
 obtain rfl : i = 0 := by simp [rootD] at hi; exact hi
 refine ⟨by omega, _, ?_, fun j u hu => ?_, ⟨.slice none 0 0, .slice none 0 0, .slice none 0 0, rfl, qQa.nil, qQa.nil, qQa.nil⟩⟩
 · rfl
 · rw [hb.cell]
   simpa [rootD, mainT] using hu
theorem qDm (m : Nat) (v : Value) (l : List Chg) (w : World) (hv : zJk m w v l) (hm : m <= w.heap.size) (hl : ∀ x ∈ l, x.name.length <= 9223372036854775807 /\ x.value.length <= 9223372036854775807) :
 Calls Tryz.prog 16 #[v] w (Rn w fun w' y => qQm w'.heap.size w' y (qVa l)) := by
 obtain ⟨va, vc, rfl, v1, v2⟩ := qQa.form hv
 have HV := lH hv
 have HL := lH hl
 clear hv hl
 have hr0 := root_at w w.heap.size rfl
 have hB0 : Bel w (w.alloc (.cells #[.bool true, .string ⟨#[109, 97, 105, 110]⟩, .string ⟨#[]⟩, .slice none 0 0, .int .i64 (-1), .slice none 0 0, .bool false, .slice none 0 0, .bool false] 65)) := (Bel.refl w).alloc _
 have HR0 := lH hr0
 have HB0 := lH hB0
 clear hr0 hB0
 go_enter Tryz.func16, Tryz.ntmps16
 go_wp2
 go_loopw [13, 3] (fun i o wr => ∃ (j : Nat), j <= l.length /\ i = .int .i64 j /\ qQm wr.heap.size wr o (qVa (l.take j)) /\ Bel w wr) (fun i _ _ => l.length - (intOf i).toNat)
 case atStart => exact ⟨0, by omega, rfl, (by have := HR0.out; simpa [qVa] using this), HB0.out⟩
 case round =>
  obtain ⟨j, hj, rfl, hD, hB⟩ := hrel
  have hR := qQa.later HV.out zZ9 hB hm
  by_cases hlt : j < l.length
  · obtain ⟨_, _, _, _, e1, _, _, _, _⟩ := qQa.elem hR j hlt
    simp at e1
    obtain ⟨rfl, rfl⟩ := e1
    obtain ⟨c0, c1, c2, c3, c4, c5⟩ := zWv hR j hlt
    have hst : Hid (qVa (l.take (j + 1)) = qVx (qVa (l.take j)) l[j]) := lH (by unfold qVa; rw [List.take_succ_eq_append_getElem hlt, List.foldl_append]; rfl)
    have hgood := qDv (l.take j)
    obtain ⟨hn1, hn2⟩ := HL.out _ (List.getElem_mem hlt)
    clear hR
    generalize l[j] = x at *
    generalize qVa (l.take j) = D at *
    have hBx : Bel wr (wr.alloc (.cells #[.int .i64 x.kind, .int .i64 x.node, .int .i64 x.dest, .int .i64 x.before, .string ⟨x.name.toArray⟩, .string ⟨x.value.toArray⟩] 40)) := (Bel.refl wr).alloc _
    have cA := lH (qDh wr.heap.size _ D x _ (hD.later hBx (Nat.le_refl _)) hBx.size hgood hn1 hn2)
    have HBX := lH (Bel.then hB hBx)
    have HDX := lH ((hD.later hBx (Nat.le_refl _)).raise hBx.size)
    obtain ⟨oa, oc, rfl, o1, o2⟩ := qQa.form hD
    unfold chgV at cA
    clear hD hB hBx
    have hstep : qVx D x = if (qJ8 D x).1 = 0 then (qJ8 D x).2.2 else D := rfl
    rw [hstep] at hst
    clear hstep
    generalize qJ8 D x = r at *
    obtain ⟨e, n, D2⟩ := r
    simp only at hst
    by_cases he : e = 0
    · rw [if_pos he] at hst
      subst he
      go_wp2_with (go_at_call 22; refine cA.out.mono ?_; rintro e w1 ⟨b1, x1, rfl, u1, rfl, o1⟩; obtain ⟨y1, z1, rfl, _, _⟩ := qQa.form o1; have HB1 := lH (Bel.then HBX.out b1); have HD1 := lH o1; clear b1 o1)
      go_roundw
      case rel => exact ⟨j + 1, by omega, by go_num, by rw [hst.out]; exact HD1.out, HB1.out⟩
      case measure => simp [intOf]; omega
    · rw [if_neg he] at hst
      have hne : (e == 0) = false := by simpa using he
      go_wp2_with (go_at_call 22; refine cA.out.mono ?_; rintro e w1 ⟨b1, x1, rfl, u1, rfl, o1⟩; obtain ⟨y1, z1, rfl, _, _⟩ := qQa.form o1; have HB1 := lH (Bel.then HBX.out b1); have HD1 := lH ((HDX.out.later b1 (Nat.le_refl _)).raise b1.size); clear b1 o1)
      go_roundw
      case rel => exact ⟨j + 1, by omega, by go_num, by rw [hst.out]; exact HD1.out, HB1.out⟩
      case measure => simp [intOf]; omega
  · have HR : Hid (qVa (l.take j) = qVa l) := lH (by rw [List.take_of_length_le (by omega)])
    rw [HR.out] at hD
    obtain ⟨oa, oc, rfl, o1, o2⟩ := qQa.form hD
    have HD := lH hD
    have HB := lH hB
    clear hR hD hB
    go_wp2
    go_ret
    exact ⟨HB.out, _, rfl, HD.out⟩
end Go.Proofs.YtklbmkaomojciaaGreat
set_option maxRecDepth 100000
namespace Go.Proofs.YtklbmkaomojciaaGreat
open Go.RowKit Go.WideShapes Go.ChangeShapes
instance : Inhabited Chg := ⟨{}⟩
theorem max_eq : maxLen = 9223372036854775807 := by decide
theorem qBk {cs : List Value} {i : Nat} (hi : i < cs.length) : (cs.drop i).take 1 = [cs[i]] := by
 rw [List.drop_eq_getElem_cons hi]; rfl
theorem open_chg {H : Type} {enc : TypeId × Value -> H} {P : Program} {w : World} {sp : Nat -> Bool} {held : Bool} {e : TypeId} {fs : Array Field} (he : P.underlying e = some (.struct fs)) (ce : P.cellsOf e = 6) (hsz : fs.size = 6)
 (hfs : ∀ i f, fs[i]? = some f -> f.offset = i /\ P.cellsOf f.type = 1 /\ P.underlying f.type = some (if i < 4 then .int .i64 else .string))
 {fuel : Nat} {cs : List Value} {y : DataW H × List MemPlace} (h : DataW.trod enc P w 0 sp held fuel e cs = some y) :
 ∃ x : Chg, rdChg w cs x /\ cs.length = 6 /\ x.name.length <= 9223372036854775807 /\ x.value.length <= 9223372036854775807 := by
 obtain ⟨xs, n, _, _, hl, hlen, hf⟩ := DataW.trod_struct he h
 rw [ce] at hl
 have hi : ∀ i (hi : i < 4), ∃ k, cs[i]'(by omega) = .int .i64 k := by
  intro i hi
  have hlt : i < fs.size := by omega
  obtain ⟨o, c, u⟩ := hfs i fs[i] (Array.getElem?_eq_getElem hlt)
  have := hf i fs[i] (Array.getElem?_eq_getElem hlt)
  rw [o, c, qBk (by omega), List.getElem?_eq_getElem (by omega)] at this
  rw [if_pos hi] at u
  obtain ⟨k, h1, _⟩ := DataW.trod_int u this
  exact ⟨k, by simpa using h1⟩
 have hs : ∀ i (h1 : 4 <= i) (hi : i < 6), ∃ s : Txt, cs[i]'(by omega) = .string ⟨s.toArray⟩ /\ s.length <= 9223372036854775807 := by
  intro i h1 hi
  have hlt : i < fs.size := by omega
  obtain ⟨o, c, u⟩ := hfs i fs[i] (Array.getElem?_eq_getElem hlt)
  have := hf i fs[i] (Array.getElem?_eq_getElem hlt)
  rw [o, c, qBk (by omega), List.getElem?_eq_getElem (by omega)] at this
  rw [if_neg (by omega)] at u
  obtain ⟨k, h1, _, h3⟩ := DataW.trod_string u this
  refine ⟨k.data.toList, ?_, ?_⟩
  · simp at h1; rw [h1]
  · exact max_eq ▸ h3
 obtain ⟨k0, e0⟩ := hi 0 (by omega)
 obtain ⟨k1, e1⟩ := hi 1 (by omega)
 obtain ⟨k2, e2⟩ := hi 2 (by omega)
 obtain ⟨k3, e3⟩ := hi 3 (by omega)
 obtain ⟨s4, e4, b4⟩ := hs 4 (by omega) (by omega)
 obtain ⟨s5, e5, b5⟩ := hs 5 (by omega) (by omega)
 refine ⟨⟨k0, k1, k2, k3, s4, s5⟩, ?_, hl, b4, b5⟩
 revert e0 e1 e2 e3 e4 e5
 match cs, hl with
 | [c0, c1, c2, c3, c4, c5], _ =>
   intro e0 e1 e2 e3 e4 e5
   simp at e0 e1 e2 e3 e4 e5
   subst e0 e1 e2 e3 e4 e5
   rfl
theorem zV6 {H : Type} {enc : TypeId × Value -> H} {P : Program} {w : World} {sp : Nat -> Bool} {held : Bool} {t e : TypeId} {fs : Array Field} (ht : P.underlying t = some (.slice e)) (he : P.underlying e = some (.struct fs)) (ce : P.cellsOf e = 6) (hsz : fs.size = 6)
 (hfs : ∀ i f, fs[i]? = some f -> f.offset = i /\ P.cellsOf f.type = 1 /\ P.underlying f.type = some (if i < 4 then .int .i64 else .string))
 {r : Go.Reach} {b0 : Nat} {v : Value} {d : DataW H} {ps : List MemPlace} (hval : Value.okWide P w r b0 t v) (hd : DataW.Trod enc P w 0 sp held t v d ps) :
 ∃ l : List Chg, zJk w.heap.size w v l /\ (∀ x ∈ l, x.name.length <= 9223372036854775807 /\ x.value.length <= 9223372036854775807) /\ ((d = .nil /\ l = []) ∨ ∃ es sp, d = .slice es sp /\ es.length = l.length) := by
 obtain ⟨a0, len0, cap0, rfl⟩ := okWide_slice ht hval
 obtain ⟨fuel, hf⟩ := hd
 rcases Deep.open_slice ht hf with ⟨h1, hd0⟩ | ⟨a, len, cap, m, n, D, Pl, h1, _, hl, hm, hmm, hd0, hx⟩
 · simp [Value.cells] at h1
   obtain ⟨rfl, rfl, rfl⟩ := h1
   exact ⟨[], qQa.nil, by simp, .inl ⟨by simpa using (congrArg Prod.fst hd0), rfl⟩⟩
 · simp [Value.cells] at h1
   obtain ⟨rfl, rfl, rfl⟩ := h1
   have hs : a.spot = none := by
    simp only [Value.okWide, ht, Cell.okWide, Cell.ok] at hval
    exact hval.2.2.2.1
   obtain ⟨b, off, s⟩ := a
   simp only at hs
   subst hs
   have hlm : len0 <= m := by rw [hmm]; split <;> omega
   have each : ∀ i, i < len0 -> ∃ x : Chg, (∃ cs, cs.length = 6 /\ Cells w b (off + i * 6) cs /\ rdChg w cs x) /\ x.name.length <= 9223372036854775807 /\ x.value.length <= 9223372036854775807 := by
    intro i hi
    obtain ⟨cs, h1, h2⟩ := hx i (by omega)
    rw [ce] at h1
    obtain ⟨_, hlen, hcell⟩ := World.cells?_some h1
    obtain ⟨x, q1, q2, q3, q4⟩ := open_chg he ce hsz hfs h2
    refine ⟨x, ⟨cs, q2, fun j u hu => ?_, q1⟩, q3, q4⟩
    have hj : j < 6 := by
     rcases Nat.lt_or_ge j cs.length with h | h
     · omega
     · rw [List.getElem?_eq_none h] at hu; simp at hu
    have := hcell j hj
    rw [Deep.add_add, Go.WideShapes.add_plain] at this
    rw [show off + i * 6 + j = off + (i * 6 + j) by omega, this, hu]
   obtain ⟨X, hX⟩ := Deep.choose_lt each
   refine ⟨(List.range len0).map X, .inr ⟨b, off, cap0, by simp, by simpa using hl, max_eq ▸ hm, fun i hi => ?_⟩, ?_, .inr ⟨_, _, congrArg Prod.fst hd0, by simp⟩⟩
   · have hi' : i < len0 := by simpa using hi
     obtain ⟨⟨cs, q1, q2, q3⟩, _⟩ := hX i hi'
     refine ⟨?_, cs, q1, q2, by simpa using q3⟩
     exact Cells.lt q2 (by intro h; rw [h] at q1; simp at q1)
   · intro x hx
     obtain ⟨i, hi, rfl⟩ := List.mem_map.1 hx
     exact (hX i (by simpa using hi)).2
theorem law_chgs {H : Type} {enc : TypeId × Value -> H} {w : World} {sp : Nat -> Bool} {held : Bool} {r : Go.Reach} {b0 : Nat} {v : Value} {d : DataW H} {ps : List MemPlace} (hval : Value.okWide Tryz.prog w r b0 22 v) (hd : DataW.Trod enc Tryz.prog w 0 sp held 22 v d ps) :
 ∃ l : List Chg, zJk w.heap.size w v l /\ (∀ x ∈ l, x.name.length <= 9223372036854775807 /\ x.value.length <= 9223372036854775807) /\ ((d = .nil /\ l = []) ∨ ∃ es sp, d = .slice es sp /\ es.length = l.length) := by
 refine zV6 Tryz.underlying22 Tryz.underlying40 (by kernel_rfl) rfl ?_ hval hd
 intro i f h
 match i with
 | 0 => simp at h; subst h; exact ⟨rfl, by kernel_rfl, Tryz.underlying3⟩
 | 1 => simp at h; subst h; exact ⟨rfl, by kernel_rfl, Tryz.underlying3⟩
 | 2 => simp at h; subst h; exact ⟨rfl, by kernel_rfl, Tryz.underlying3⟩
 | 3 => simp at h; subst h; exact ⟨rfl, by kernel_rfl, Tryz.underlying3⟩
 | 4 => simp at h; subst h; exact ⟨rfl, by kernel_rfl, Tryz.underlying9⟩
 | 5 => simp at h; subst h; exact ⟨rfl, by kernel_rfl, Tryz.underlying9⟩
 | i + 6 => simp at h
end Go.Proofs.YtklbmkaomojciaaGreat
namespace Go.Proofs.YtklbmkaomojciaaGreat
open Go.RowKit Go.WideShapes Go.ChangeShapes
end Go.Proofs.YtklbmkaomojciaaGreat
namespace Go.Proofs.YtklbmkaomojciaaGreat
open Go.RowKit
theorem qKt {P : Program} {w : World} {o : Oper} {a : Act} {K : Act -> World -> Prop} {Q : Exit -> Act -> World -> Prop} {E : Prop} {ops : Array Oper} (hg : o.guard = none)
 (f : FuncId) (eg : ∀ args w, (callFunc f args).run P w = .ok (.enter f args) w) (xs : Array Operand) (ts : Array TypeId) (ho : o.op = .call { callee := .value (.func f), args := xs, argTypes := ts })
 {vs : Array Value} (hv : xs.map a.eval = vs) {R : Ending -> World -> Prop} (hc : Calls P f vs w R) (h : ∀ e w', R e w' -> ∃ v, e = .returned v /\ K (a.put o.dst v) w') : if Region.wanted o (yielded ops a.tmps) = true then Oper.wp P o a w K Q else E := by
 rw [if_pos (by simp [Region.wanted, hg])]
 subst hv
 unfold Oper.wp
 simp [execOp, ho, resolve, Deferred.ofValue, Act.eval, invoke, eg]
 refine hc.mono (fun e w' hr => ?_)
 obtain ⟨v, rfl, hk⟩ := h e w' hr
 exact hk
end Go.Proofs.YtklbmkaomojciaaGreat
