/- Documents as the program asks them: walks. -/
import Derived.Test.YtklbmkaomojciaaGreatRefDoc
set_option maxRecDepth 100000
set_option maxHeartbeats 1000000
namespace Go.Proofs.YtklbmkaomojciaaGreat
open Go.RowKit
theorem qQ9 (m : Nat) (v : Value) (d : Dc) (n : Int) (el : Bool) (w : World) (hv : qQk m w v d) :
 Calls Tryz.prog 56 #[v, .int .i64 n, .bool el] w (Rv (.bool (isM d n el)) w) := by
 obtain ⟨a, cap, e0, h1, h2⟩ := qQa.form hv
 by_cases hn : 0 <= n
 · by_cases hl : n < (d.length : Int)
   · obtain ⟨k, rfl⟩ := Int.eq_ofNat_of_zero_le hn
     have hk : k < d.length := by omega
     obtain ⟨b, off, cap', av, kv, sv, rfl, -, -, -, hN⟩ := hv.node k hk
     have c1 := hN.live
     have c2 := hN.tag
     have hi : isM d k el = (d[k].live && (!el || !d[k].tag.isEmpty)) := by simp [isM, qQq hk, hk]
     rw [hi]
     clear hi hN e0 hv
     generalize d[k].live = lv at *
     generalize d[k].tag = tg at *
     go_enter Tryz.func56, Tryz.ntmps56
     rcases lv with - | -
     · go_wp2
       go_ret
       exact ⟨rfl, rfl⟩
     · rcases el with - | -
       · go_wp2
         go_ret
         exact ⟨rfl, rfl⟩
       · go_wp2
         go_ret
         exact ⟨qZp (by simp), rfl⟩
   · subst e0
     have hi : isM d n el = false := by simp [isM]; omega
     rw [hi]
     go_enter Tryz.func56, Tryz.ntmps56
     go_wp2
     go_ret
     exact ⟨rfl, rfl⟩
 · subst e0
   have hi : isM d n el = false := by simp [isM]; omega
   rw [hi]
   go_enter Tryz.func56, Tryz.ntmps56
   go_wp2
   go_ret
   exact ⟨rfl, rfl⟩
theorem qZg (m : Nat) (v : Value) (d : Dc) (n : Int) (s : Txt) (w : World) (hv : qQk m w v d) (hm : m <= w.heap.size) :
 Calls Tryz.prog 76 #[v, .int .i64 n, .string ⟨s.toArray⟩] w (Rb (.tuple #[.string ⟨((qZv d n s).getD []).toArray⟩, .bool (qZv d n s).isSome]) w) := by
 by_cases hi : isM d n true = true
 · obtain ⟨k, hk, rfl, -⟩ := qQm.1 (qZe hi)
   obtain ⟨b, off, cap', av, kv, sv, rfl, -, -, -, hN⟩ := hv.node k hk
   have c1 := hN.atts
   have hA := hN.attsAt
   have hI := qQ9 m _ d k true w hv
   rw [hi] at hI
   have hr : qZv d k s = qJi d[k].attrs s := by simp [qZv, hi, qQq hk]
   rw [hr]
   clear hr hN hi
   generalize d[k].attrs = l at *
   obtain ⟨a, cap, rfl, l1, l2⟩ := qQa.form hA
   clear hv
   go_enter Tryz.func76, Tryz.ntmps76
   go_wp2_with fail
   (with_reducible refine hI.mono ?_)
   rintro e w1 ⟨rfl, rfl⟩
   go_wp2
   go_loopw [20] (fun i wr => ∃ j : Nat, j <= l.length /\ i = .int .i64 j /\ qJi (l.drop j) s = qJi l s /\ Below w.heap.size w wr) (fun i _ => l.length - (intOf i).toNat)
   case atStart => exact ⟨0, by omega, rfl, rfl, Below.refl _ _⟩
   case round =>
    obtain ⟨j, hj, rfl, hF, hB⟩ := hrel
    have HB := lH hB
    have HF := lH hF
    have hA' := qQa.later hA qQr hB hm
    clear hB hF
    by_cases hlt : j < l.length
    · obtain ⟨bb, oo, _, _, e1, _, _, _, _⟩ := qQa.elem hA' j hlt
      simp at e1
      obtain ⟨rfl, rfl⟩ := e1
      obtain ⟨d1, d2⟩ := qWu hA' j hlt
      have hd : l.drop j = l[j] :: l.drop (j + 1) := List.drop_eq_getElem_cons hlt
      rw [hd] at HF
      generalize l[j] = x at *
      clear hA hA' hd
      by_cases hx : x.name = s
      · have hr : qJi l s = some x.value := by rw [<- HF.out]; simp [qJi, hx]
        have hb : (x.name == s) = true := by simpa using hx
        rw [hr]
        clear hr hx
        go_wp2
        go_ret2
        refine ⟨rfl, ?_⟩
        exact Bel.alloc HB.out _
      · have hr : qJi (l.drop (j + 1)) s = qJi l s := by rw [<- HF.out]; simp [qJi, hx]
        have hb : (x.name == s) = false := by simpa using hx
        have HF := lH hr
        clear hr hx
        go_wp2
        go_roundw
        case rel => exact ⟨j + 1, by omega, by go_num, HF.out, Bel.alloc HB.out _⟩
        case measure => simp [intOf]; omega
    · have hr : qJi l s = none := by rw [<- HF.out, List.drop_eq_nil_of_le (by omega)]; rfl
      have HR := lH hr
      clear hA hA' hr
      go_wp2
      go_ret2
      exact ⟨by simp [HR.out], HB.out⟩
 · have hI := qQ9 m _ d n true w hv
   have hi : isM d n true = false := by simpa using hi
   rw [hi] at hI
   have hr : qZv d n s = none := by simp [qZv, hi]
   rw [hr]
   clear hr
   go_enter Tryz.func76, Tryz.ntmps76
   go_wp2_with fail
   (with_reducible refine hI.mono ?_)
   rintro e w1 ⟨rfl, rfl⟩
   go_wp2
   go_ret2
   exact ⟨by simp, Below.refl _ _⟩
theorem zQ4 {d : Dc} {f : Nat} {n : Int} (h : isM d n false = true) : pathF d (f + 1) n = n :: pathF d f (nd d n).up := by rw [pathF, if_pos h]
theorem qDm {d : Dc} {f : Nat} {n : Int} (h : isM d n false = false) : pathF d f n = [] := by
 cases f with
 | zero => rfl
 | succ f => rw [pathF, if_neg (by simp [h])]
theorem qGh (m : Nat) (v : Value) (d : Dc) (n i : Int) (w : World) (hv : qQk m w v d) (hd : d.length <= 1000000000) :
 Calls Tryz.prog 178 #[v, .int .i64 n, .int .i64 i] w (Rv (.bool (qK0 d n i)) w) := by
 have hW : qK0 d n i = (pathF d (d.length + 1) n).contains i := rfl
 rw [hW]
 clear hW
 obtain ⟨av, acap, rfl, a1, a2⟩ := qQa.form hv
 have HV := lH hv
 clear hv
 go_enter Tryz.func178, Tryz.ntmps178
 go_wp2
 go_loop [10, 1] (fun z x => ∃ (j : Nat) (k : Int), j <= d.length + 1 /\ z = .int .i64 j /\ x = .int .i64 k /\ (pathF d (d.length + 1 - j) k).contains i = (pathF d (d.length + 1) n).contains i) (fun z _ => d.length + 1 - (intOf z).toNat)
 case atStart => exact ⟨0, n, by omega, rfl, rfl, rfl⟩
 case round =>
  obtain ⟨j, k, hj, rfl, rfl, hF⟩ := hrel
  have HF := lH hF
  clear hF
  have cI := lH (qQ9 m _ d k false w HV.out)
  by_cases hlt : j < d.length + 1
  · have hlt2 : (j : Int) < (d.length : Int) + 1 := by omega
    cases hi : isM d k false with
    | false =>
      rw [hi] at cI
      have HR : Hid ((pathF d (d.length + 1) n).contains i = false) := lH (by rw [<- HF.out, qDm hi]; rfl)
      clear hi
      go_wp2_with (go_at_call 56; refine cI.out.mono ?_; rintro e w1 ⟨rfl, rfl⟩)
      go_ret
      exact ⟨qZp HR.out.symm, rfl⟩
    | true =>
      rw [hi] at cI
      have e1 := zQ4 (f := d.length + 1 - (j + 1)) hi
      rw [show d.length + 1 - (j + 1) + 1 = d.length + 1 - j by omega] at e1
      have HF2 := HF.out
      rw [e1] at HF2
      clear HF
      obtain ⟨p, hp, rfl, -⟩ := qQm.1 hi
      obtain ⟨b, off, cap', av, kv, sv, e2, -, -, hbb, hN⟩ := HV.out.node p hp
      simp at e2
      obtain ⟨rfl, rfl⟩ := e2
      have c4 := hN.up
      rw [qQq hp] at HF2
      clear hN hi e1
      generalize d[p].up = u at *
      by_cases hpi : (p : Int) = i
      · have hb : ((p : Int) == i) = true := by simpa using hpi
        have HR : Hid ((pathF d (d.length + 1) n).contains i = true) := lH (by rw [<- HF2, hpi]; simp)
        clear HF2 hpi
        go_wp2_with (go_at_call 56; refine cI.out.mono ?_; rintro e w1 ⟨rfl, rfl⟩)
        go_ret
        exact ⟨qZp HR.out.symm, rfl⟩
      · have hb : ((p : Int) == i) = false := by simpa using hpi
        have HF3 : Hid ((pathF d (d.length + 1 - (j + 1)) u).contains i = (pathF d (d.length + 1) n).contains i) := lH (by rw [<- HF2]; simp [show i ≠ (p : Int) from fun h => hpi h.symm])
        clear HF2 hpi
        go_wp2_with (go_at_call 56; refine cI.out.mono ?_; rintro e w1 ⟨rfl, rfl⟩)
        go_round
        case rel => exact ⟨j + 1, u, by omega, by go_num, rfl, HF3.out⟩
        case measure => simp [intOf]; omega
  · obtain rfl : j = d.length + 1 := by omega
    have HR : Hid ((pathF d (d.length + 1) n).contains i = false) := lH (by rw [<- HF.out]; simp [pathF])
    have hlt2 : decide (((d.length + 1 : Nat) : Int) < (d.length : Int) + 1) = false := by simp
    clear hlt cI
    go_wp2
    go_ret
    exact ⟨qZp (by have := HR.out; simp at this; simp [this]), rfl⟩
def scopeL (d : Dc) (l : List Int) : Int := ((l.find? (fun k => (nd d k).inS && decide (0 <= (nd d k).up))).map (fun k => (nd d k).up)).getD 0
theorem qJ2 (m : Nat) (v : Value) (d : Dc) (n : Int) (w : World) (hv : qQk m w v d) (hd : d.length <= 1000000000) :
 Calls Tryz.prog 151 #[v, .int .i64 n] w (Rv (.int .i64 (qQn d n)) w) := by
 have hW : qQn d n = scopeL d (pathF d (d.length + 1) n) := rfl
 rw [hW]
 clear hW
 obtain ⟨av, acap, rfl, a1, a2⟩ := qQa.form hv
 have HV := lH hv
 clear hv
 go_enter Tryz.func151, Tryz.ntmps151
 go_wp2
 go_loop [8, 1] (fun z x => ∃ (j : Nat) (k : Int), j <= d.length + 1 /\ z = .int .i64 j /\ x = .int .i64 k /\ scopeL d (pathF d (d.length + 1 - j) k) = scopeL d (pathF d (d.length + 1) n)) (fun z _ => d.length + 1 - (intOf z).toNat)
 case atStart => exact ⟨0, n, by omega, rfl, rfl, rfl⟩
 case round =>
  obtain ⟨j, k, hj, rfl, rfl, hF⟩ := hrel
  have HF := lH hF
  clear hF
  have cI := lH (qQ9 m _ d k false w HV.out)
  by_cases hlt : j < d.length + 1
  · have hlt2 : (j : Int) < (d.length : Int) + 1 := by omega
    cases hi : isM d k false with
    | false =>
      rw [hi] at cI
      have HR : Hid (scopeL d (pathF d (d.length + 1) n) = 0) := lH (by rw [<- HF.out, qDm hi]; rfl)
      clear hi
      go_wp2_with (go_at_call 56; refine cI.out.mono ?_; rintro e w1 ⟨rfl, rfl⟩)
      go_ret
      exact ⟨qQh HR.out.symm, rfl⟩
    | true =>
      rw [hi] at cI
      have e1 := zQ4 (f := d.length + 1 - (j + 1)) hi
      rw [show d.length + 1 - (j + 1) + 1 = d.length + 1 - j by omega] at e1
      have HF2 := HF.out
      rw [e1] at HF2
      clear HF
      obtain ⟨p, hp, rfl, -⟩ := qQm.1 hi
      obtain ⟨b, off, cap', av, kv, sv, e2, -, -, hbb, hN⟩ := HV.out.node p hp
      simp at e2
      obtain ⟨rfl, rfl⟩ := e2
      have c4 := hN.up
      have c8 := hN.inS
      rw [qQq hp] at HF2
      have hnd := qQq hp
      clear hN hi e1
      generalize d[p] = X at *
      obtain ⟨_, _, _, _, u, _, _, _, ins⟩ := X
      simp only at c4 c8 HF2
      by_cases hu : u < 0
      · have HR : Hid (scopeL d (pathF d (d.length + 1) n) = 0) := lH (by
         have hu3 : ¬ 0 <= u := by omega
         have hu4 : isM d u false = false := by simp [isM, hu3]
         rw [<- HF2, qDm hu4]
         have hu2 : ¬ 0 <= u := by omega
         simp [scopeL, hnd, hu2])
        clear HF2 hnd
        go_wp2_with (go_at_call 56; refine cI.out.mono ?_; rintro e w1 ⟨rfl, rfl⟩)
        go_ret
        exact ⟨qQh HR.out.symm, rfl⟩
      · cases ins with
        | true =>
          have HR : Hid (scopeL d (pathF d (d.length + 1) n) = u) := lH (by
           rw [<- HF2]
           simp [scopeL, hnd, show 0 <= u by omega])
          clear HF2 hnd
          go_wp2_with (go_at_call 56; refine cI.out.mono ?_; rintro e w1 ⟨rfl, rfl⟩)
          go_ret
          exact ⟨qQh HR.out.symm, rfl⟩
        | false =>
          have HF3 : Hid (scopeL d (pathF d (d.length + 1 - (j + 1)) u) = scopeL d (pathF d (d.length + 1) n)) := lH (by
           rw [<- HF2]
           simp [scopeL, hnd])
          clear HF2 hnd
          go_wp2_with (go_at_call 56; refine cI.out.mono ?_; rintro e w1 ⟨rfl, rfl⟩)
          go_round
          case rel => exact ⟨j + 1, u, by omega, by go_num, rfl, HF3.out⟩
          case measure => simp [intOf]; omega
  · obtain rfl : j = d.length + 1 := by omega
    have HR : Hid (scopeL d (pathF d (d.length + 1) n) = 0) := lH (by rw [<- HF.out]; simp [pathF, scopeL])
    have hlt2 : decide (((d.length + 1 : Nat) : Int) < (d.length : Int) + 1) = false := by simp
    clear hlt cI
    go_wp2
    go_ret
    exact ⟨qQh HR.out.symm, rfl⟩
end Go.Proofs.YtklbmkaomojciaaGreat
