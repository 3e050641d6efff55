/- Documents as the program asks them: walks. -/
import Derived.Test.YtklbmkaomojciaaGreatRefDoc
set_option maxRecDepth 100000
set_option maxHeartbeats 1000000
namespace Go.Proofs.YtklbmkaomojciaaGreat
open Go.RowKit
theorem qZb (m : Nat) (v : Value) (d : Dc) (n : Int) (el : Bool) (w : World) (hv : qQm m w v d) :
 Calls Tryz.prog 56 #[v, .int .i64 n, .bool el] w (Rv (.bool (isM d n el)) w) := by
 obtain ⟨a, cap, e0, h1, h2⟩ := qQa.form hv
 by_cases hn : 0 <= n
 · by_cases hl : n < (d.length : Int)
   · obtain ⟨k, rfl⟩ := Int.eq_ofNat_of_zero_le hn
     have hk : k < d.length := by omega
     obtain ⟨b, off, cap', av, kv, sv, rfl, -, -, -, hN⟩ := hv.node k hk
     have c1 := hN.live
     have c2 := hN.tag
     have hi : isM d k el = (d[k].live && (!el || !d[k].tag.isEmpty)) := by simp [isM, qQt hk, hk]
     rw [hi]
     clear hi hN e0 hv
     generalize d[k].live = lv at *
     generalize d[k].tag = tg at *
     go_enter Tryz.func56, Tryz.ntmps56
     rcases lv with - | -
     · go_wp2
       go_ret
       exact ⟨rfl, rfl⟩
     · rcases el with - | -
       · go_wp2
         go_ret
         exact ⟨rfl, rfl⟩
       · go_wp2
         go_ret
         exact ⟨qZv (by simp), rfl⟩
   · subst e0
     have hi : isM d n el = false := by simp [isM]; omega
     rw [hi]
     go_enter Tryz.func56, Tryz.ntmps56
     go_wp2
     go_ret
     exact ⟨rfl, rfl⟩
 · subst e0
   have hi : isM d n el = false := by simp [isM]; omega
   rw [hi]
   go_enter Tryz.func56, Tryz.ntmps56
   go_wp2
   go_ret
   exact ⟨rfl, rfl⟩
theorem qZt (m : Nat) (v : Value) (d : Dc) (n : Int) (s : Txt) (w : World) (hv : qQm m w v d) (hm : m <= w.heap.size) :
 Calls Tryz.prog 76 #[v, .int .i64 n, .string ⟨s.toArray⟩] w (Rb (.tuple #[.string ⟨((qZ5 d n s).getD []).toArray⟩, .bool (qZ5 d n s).isSome]) w) := by
 by_cases hi : isM d n true = true
 · obtain ⟨k, hk, rfl, -⟩ := qQq.1 (qZl hi)
   obtain ⟨b, off, cap', av, kv, sv, rfl, -, -, -, hN⟩ := hv.node k hk
   have c1 := hN.atts
   have hA := hN.attsAt
   have hI := qZb m _ d k true w hv
   rw [hi] at hI
   have hr : qZ5 d k s = qJz d[k].attrs s := by simp [qZ5, hi, qQt hk]
   rw [hr]
   clear hr hN hi
   generalize d[k].attrs = l at *
   obtain ⟨a, cap, rfl, l1, l2⟩ := qQa.form hA
   clear hv
   go_enter Tryz.func76, Tryz.ntmps76
   go_wp2_with fail
   (with_reducible refine hI.mono ?_)
   rintro e w1 ⟨rfl, rfl⟩
   go_wp2
   go_loopw [20] (fun i wr => ∃ j : Nat, j <= l.length /\ i = .int .i64 j /\ qJz (l.drop j) s = qJz l s /\ Below w.heap.size w wr) (fun i _ => l.length - (intOf i).toNat)
   case atStart => exact ⟨0, by omega, rfl, rfl, Below.refl _ _⟩
   case round =>
    obtain ⟨j, hj, rfl, hF, hB⟩ := hrel
    have HB := lH hB
    have HF := lH hF
    have hA' := qQa.later hA qQx hB hm
    clear hB hF
    by_cases hlt : j < l.length
    · obtain ⟨bb, oo, _, _, e1, _, _, _, _⟩ := qQa.elem hA' j hlt
      simp at e1
      obtain ⟨rfl, rfl⟩ := e1
      obtain ⟨d1, d2⟩ := qBw hA' j hlt
      have hd : l.drop j = l[j] :: l.drop (j + 1) := List.drop_eq_getElem_cons hlt
      rw [hd] at HF
      generalize l[j] = x at *
      clear hA hA' hd
      by_cases hx : x.name = s
      · have hr : qJz l s = some x.value := by rw [<- HF.out]; simp [qJz, hx]
        have hb : (x.name == s) = true := by simpa using hx
        rw [hr]
        clear hr hx
        go_wp2
        go_ret2
        refine ⟨rfl, ?_⟩
        exact Bel.alloc HB.out _
      · have hr : qJz (l.drop (j + 1)) s = qJz l s := by rw [<- HF.out]; simp [qJz, hx]
        have hb : (x.name == s) = false := by simpa using hx
        have HF := lH hr
        clear hr hx
        go_wp2
        go_roundw
        case rel => exact ⟨j + 1, by omega, by go_num, HF.out, Bel.alloc HB.out _⟩
        case measure => simp [intOf]; omega
    · have hr : qJz l s = none := by rw [<- HF.out, List.drop_eq_nil_of_le (by omega)]; rfl
      have HR := lH hr
      clear hA hA' hr
      go_wp2
      go_ret2
      exact ⟨by simp [HR.out], HB.out⟩
 · have hI := qZb m _ d n true w hv
   have hi : isM d n true = false := by simpa using hi
   rw [hi] at hI
   have hr : qZ5 d n s = none := by simp [qZ5, hi]
   rw [hr]
   clear hr
   go_enter Tryz.func76, Tryz.ntmps76
   go_wp2_with fail
   (with_reducible refine hI.mono ?_)
   rintro e w1 ⟨rfl, rfl⟩
   go_wp2
   go_ret2
   exact ⟨by simp, Below.refl _ _⟩
theorem zZ7 {d : Dc} {f : Nat} {n : Int} (h : isM d n false = true) : pathF d (f + 1) n = n :: pathF d f (nd d n).up := by rw [pathF, if_pos h]
theorem zQk {d : Dc} {f : Nat} {n : Int} (h : isM d n false = false) : pathF d f n = [] := by
 cases f with
 | zero => rfl
 | succ f => rw [pathF, if_neg (by simp [h])]
theorem qG8 (m : Nat) (v : Value) (d : Dc) (n i : Int) (w : World) (hv : qQm m w v d) (hd : d.length <= 1000000000) :
 Calls Tryz.prog 178 #[v, .int .i64 n, .int .i64 i] w (Rv (.bool (qXo d n i)) w) := by
 have hW : qXo d n i = (pathF d (d.length + 1) n).contains i := rfl
 rw [hW]
 clear hW
 obtain ⟨av, acap, rfl, a1, a2⟩ := qQa.form hv
 have HV := lH hv
 clear hv
 go_enter Tryz.func178, Tryz.ntmps178
 go_wp2
 go_loop [10, 1] (fun z x => ∃ (j : Nat) (k : Int), j <= d.length + 1 /\ z = .int .i64 j /\ x = .int .i64 k /\ (pathF d (d.length + 1 - j) k).contains i = (pathF d (d.length + 1) n).contains i) (fun z _ => d.length + 1 - (intOf z).toNat)
 case atStart => exact ⟨0, n, by omega, rfl, rfl, rfl⟩
 case round =>
  obtain ⟨j, k, hj, rfl, rfl, hF⟩ := hrel
  have HF := lH hF
  clear hF
  have cI := lH (qZb m _ d k false w HV.out)
  by_cases hlt : j < d.length + 1
  · have hlt2 : (j : Int) < (d.length : Int) + 1 := by omega
    cases hi : isM d k false with
    | false =>
      rw [hi] at cI
      have HR : Hid ((pathF d (d.length + 1) n).contains i = false) := lH (by rw [<- HF.out, zQk hi]; rfl)
      clear hi
      go_wp2_with (go_at_call 56; refine cI.out.mono ?_; rintro e w1 ⟨rfl, rfl⟩)
      go_ret
      exact ⟨qZv HR.out.symm, rfl⟩
    | true =>
      rw [hi] at cI
      have e1 := zZ7 (f := d.length + 1 - (j + 1)) hi
      rw [show d.length + 1 - (j + 1) + 1 = d.length + 1 - j by omega] at e1
      have HF2 := HF.out
      rw [e1] at HF2
      clear HF
      obtain ⟨p, hp, rfl, -⟩ := qQq.1 hi
      obtain ⟨b, off, cap', av, kv, sv, e2, -, -, hbb, hN⟩ := HV.out.node p hp
      simp at e2
      obtain ⟨rfl, rfl⟩ := e2
      have c4 := hN.up
      rw [qQt hp] at HF2
      clear hN hi e1
      generalize d[p].up = u at *
      by_cases hpi : (p : Int) = i
      · have hb : ((p : Int) == i) = true := by simpa using hpi
        have HR : Hid ((pathF d (d.length + 1) n).contains i = true) := lH (by rw [<- HF2, hpi]; simp)
        clear HF2 hpi
        go_wp2_with (go_at_call 56; refine cI.out.mono ?_; rintro e w1 ⟨rfl, rfl⟩)
        go_ret
        exact ⟨qZv HR.out.symm, rfl⟩
      · have hb : ((p : Int) == i) = false := by simpa using hpi
        have HF3 : Hid ((pathF d (d.length + 1 - (j + 1)) u).contains i = (pathF d (d.length + 1) n).contains i) := lH (by rw [<- HF2]; simp [show i ≠ (p : Int) from fun h => hpi h.symm])
        clear HF2 hpi
        go_wp2_with (go_at_call 56; refine cI.out.mono ?_; rintro e w1 ⟨rfl, rfl⟩)
        go_round
        case rel => exact ⟨j + 1, u, by omega, by go_num, rfl, HF3.out⟩
        case measure => simp [intOf]; omega
  · obtain rfl : j = d.length + 1 := by omega
    have HR : Hid ((pathF d (d.length + 1) n).contains i = false) := lH (by rw [<- HF.out]; simp [pathF])
    have hlt2 : decide (((d.length + 1 : Nat) : Int) < (d.length : Int) + 1) = false := by simp
    clear hlt cI
    go_wp2
    go_ret
    exact ⟨qZv (by have := HR.out; simp at this; simp [this]), rfl⟩
def scopeL (d : Dc) (l : List Int) : Int := ((l.find? (fun k => (nd d k).inS && decide (0 <= (nd d k).up))).map (fun k => (nd d k).up)).getD 0
theorem qKs (m : Nat) (v : Value) (d : Dc) (n : Int) (w : World) (hv : qQm m w v d) (hd : d.length <= 1000000000) :
 Calls Tryz.prog 151 #[v, .int .i64 n] w (Rv (.int .i64 (qQo d n)) w) := by
 have hW : qQo d n = scopeL d (pathF d (d.length + 1) n) := rfl
 rw [hW]
 clear hW
 obtain ⟨av, acap, rfl, a1, a2⟩ := qQa.form hv
 have HV := lH hv
 clear hv
 go_enter Tryz.func151, Tryz.ntmps151
 go_wp2
 go_loop [8, 1] (fun z x => ∃ (j : Nat) (k : Int), j <= d.length + 1 /\ z = .int .i64 j /\ x = .int .i64 k /\ scopeL d (pathF d (d.length + 1 - j) k) = scopeL d (pathF d (d.length + 1) n)) (fun z _ => d.length + 1 - (intOf z).toNat)
 case atStart => exact ⟨0, n, by omega, rfl, rfl, rfl⟩
 case round =>
  obtain ⟨j, k, hj, rfl, rfl, hF⟩ := hrel
  have HF := lH hF
  clear hF
  have cI := lH (qZb m _ d k false w HV.out)
  by_cases hlt : j < d.length + 1
  · have hlt2 : (j : Int) < (d.length : Int) + 1 := by omega
    cases hi : isM d k false with
    | false =>
      rw [hi] at cI
      have HR : Hid (scopeL d (pathF d (d.length + 1) n) = 0) := lH (by rw [<- HF.out, zQk hi]; rfl)
      clear hi
      go_wp2_with (go_at_call 56; refine cI.out.mono ?_; rintro e w1 ⟨rfl, rfl⟩)
      go_ret
      exact ⟨qQl HR.out.symm, rfl⟩
    | true =>
      rw [hi] at cI
      have e1 := zZ7 (f := d.length + 1 - (j + 1)) hi
      rw [show d.length + 1 - (j + 1) + 1 = d.length + 1 - j by omega] at e1
      have HF2 := HF.out
      rw [e1] at HF2
      clear HF
      obtain ⟨p, hp, rfl, -⟩ := qQq.1 hi
      obtain ⟨b, off, cap', av, kv, sv, e2, -, -, hbb, hN⟩ := HV.out.node p hp
      simp at e2
      obtain ⟨rfl, rfl⟩ := e2
      have c4 := hN.up
      have c8 := hN.inS
      rw [qQt hp] at HF2
      have hnd := qQt hp
      clear hN hi e1
      generalize d[p] = X at *
      obtain ⟨_, _, _, _, u, _, _, _, ins⟩ := X
      simp only at c4 c8 HF2
      by_cases hu : u < 0
      · have HR : Hid (scopeL d (pathF d (d.length + 1) n) = 0) := lH (by
         have hu3 : ¬ 0 <= u := by omega
         have hu4 : isM d u false = false := by simp [isM, hu3]
         rw [<- HF2, zQk hu4]
         have hu2 : ¬ 0 <= u := by omega
         simp [scopeL, hnd, hu2])
        clear HF2 hnd
        go_wp2_with (go_at_call 56; refine cI.out.mono ?_; rintro e w1 ⟨rfl, rfl⟩)
        go_ret
        exact ⟨qQl HR.out.symm, rfl⟩
      · cases ins with
        | true =>
          have HR : Hid (scopeL d (pathF d (d.length + 1) n) = u) := lH (by
           rw [<- HF2]
           simp [scopeL, hnd, show 0 <= u by omega])
          clear HF2 hnd
          go_wp2_with (go_at_call 56; refine cI.out.mono ?_; rintro e w1 ⟨rfl, rfl⟩)
          go_ret
          exact ⟨qQl HR.out.symm, rfl⟩
        | false =>
          have HF3 : Hid (scopeL d (pathF d (d.length + 1 - (j + 1)) u) = scopeL d (pathF d (d.length + 1) n)) := lH (by
           rw [<- HF2]
           simp [scopeL, hnd])
          clear HF2 hnd
          go_wp2_with (go_at_call 56; refine cI.out.mono ?_; rintro e w1 ⟨rfl, rfl⟩)
          go_round
          case rel => exact ⟨j + 1, u, by omega, by go_num, rfl, HF3.out⟩
          case measure => simp [intOf]; omega
  · obtain rfl : j = d.length + 1 := by omega
    have HR : Hid (scopeL d (pathF d (d.length + 1) n) = 0) := lH (by rw [<- HF.out]; simp [pathF, scopeL])
    have hlt2 : decide (((d.length + 1 : Nat) : Int) < (d.length : Int) + 1) = false := by simp
    clear hlt cI
    go_wp2
    go_ret
    exact ⟨qQl HR.out.symm, rfl⟩
end Go.Proofs.YtklbmkaomojciaaGreat
set_option maxRecDepth 100000
set_option maxHeartbeats 2000000
namespace Go.Proofs.YtklbmkaomojciaaGreat
open Go.RowKit
theorem zZy : ∀ (f : Nat) (m : Nat) (v : Value) (d : Dc) (n : Int) (w : World), qQm m w v d -> m <= w.heap.size -> Ends d f n -> (allF d f n).length <= 1000000000 ->
 Calls Tryz.prog 137 #[v, .int .i64 n] w (Rn w fun w' x => qQc 1 qQk w.heap.size 3 w' x (allF d f n)) := by
 intro f
 induction f with
 | zero => intro m v d n w hv hm he; exact he.elim
 | succ f ih =>
 intro m v d n w hv hm he hL
 have HI := lH (qZb m _ d n false w hv)
 cases hi : isM d n false with
 | false =>
   rw [hi] at HI
   have hr : allF d (f + 1) n = [] := by rw [allF, if_neg (by simp [hi])]
   rw [hr]
   go_enter Tryz.func137, Tryz.ntmps137
   go_wp2_with (go_at_call 56; refine HI.out.mono ?_; rintro e w1 ⟨rfl, rfl⟩)
   go_ret
   exact ⟨Below.refl _ _, _, rfl, qQc.nil _ _ _⟩
 | true =>
   rw [hi] at HI
   have hE := he hi
   have hr : allF d (f + 1) n = n :: ((nd d n).shadow ++ (nd d n).kids).flatMap (allF d f) := by rw [allF, if_pos hi]
   rw [hr] at hL ⊢
   obtain ⟨k, hk, rfl, -⟩ := qQq.1 hi
   rw [qQt hk] at hE hL ⊢
   clear hr hi he
   obtain ⟨b, off, cap', av, kv, sv, rfl, -, -, hbb, hN⟩ := hv.node k hk
   have c5 := hN.kids
   have c7 := hN.shadow
   have kAt := hN.kidsAt
   have sAt := hN.shadowAt
   clear hN
   generalize d[k].kids = K at *
   generalize d[k].shadow = S at *
   obtain ⟨ka, kc, rfl, k1, k2⟩ := qQa.form kAt
   obtain ⟨sa, sc, rfl, s1, s2⟩ := qQa.form sAt
   have HE1 : Hid (∀ x ∈ S, Ends d f x) := lH (fun x hx => hE x (List.mem_append_left _ hx))
   have HE2 : Hid (∀ x ∈ K, Ends d f x) := lH (fun x hx => hE x (List.mem_append_right _ hx))
   have HL : Hid (1 + (S.flatMap (allF d f)).length + (K.flatMap (allF d f)).length <= 1000000000) := lH (by
    simp only [List.flatMap_append, List.length_append, List.length_cons] at hL
    omega)
   have hsub : ∀ (X : List Int) t, t < X.length -> ((X.take t).flatMap (allF d f)).length <= (X.flatMap (allF d f)).length /\ ((X.take (t + 1)).flatMap (allF d f)).length <= (X.flatMap (allF d f)).length := by
    intro X t _
    have h1 := congrArg List.length (congrArg (List.flatMap (allF d f)) (List.take_append_drop t X))
    have h2 := congrArg List.length (congrArg (List.flatMap (allF d f)) (List.take_append_drop (t + 1) X))
    simp only [List.flatMap_append, List.length_append] at h1 h2
    omega
   have HSUB := lH hsub
   have b5 : ∀ W', Below w.heap.size w W' -> W'.cell? ⟨b, off + k * 9 + 5, none⟩ = some (.slice ka K.length kc) := fun W' hW => (Bel.cells hW _ _ (by omega)).trans c5
   have b7 : ∀ W', Below w.heap.size w W' -> W'.cell? ⟨b, off + k * 9 + 7, none⟩ = some (.slice sa S.length sc) := fun W' hW => (Bel.cells hW _ _ (by omega)).trans c7
   have KB5 := lH b5
   have HKA := lH kAt
   have HSA := lH sAt
   have HV := lH hv
   have a0 := qH7 w w.heap.size k (Nat.le_refl _)
   have B0 : Below w.heap.size w (w.alloc (.cells #[.int .i64 k] 3)) := (Below.refl _ _).alloc (Nat.le_refl _) _
   have e7 := b7 _ B0
   have HA0 := lH a0
   have HB0 := lH B0
   clear hE hL hsub b5 b7 kAt sAt hv a0 B0 c5 c7
   go_enter Tryz.func137, Tryz.ntmps137
   go_wp2_with (go_at_call 56; refine HI.out.mono ?_; rintro e w1 ⟨rfl, rfl⟩)
   go_loopw [22, 5] (fun i o wr => ∃ (t : Nat) (out : List Int), t <= S.length /\ i = .int .i64 t /\ qQc 1 qQk w.heap.size 3 wr o out /\ out = (k : Int) :: (S.take t).flatMap (allF d f) /\ Below w.heap.size w wr) (fun i _ _ => S.length - (intOf i).toNat)
   case atStart => exact ⟨0, [(k : Int)], by omega, rfl, HA0.out, rfl, HB0.out⟩
   case round =>
    obtain ⟨t, out, ht, rfl, hO, hP, hB⟩ := hrel
    have HO := lH hO
    have HP := lH hP
    have HB := lH hB
    obtain ⟨oa, ocap, rfl, o1, o2⟩ := qQa.form hO.read
    have S0 := hB.size
    clear hO hP hB e7
    by_cases hlt2 : t < S.length
    · obtain ⟨xb, xo, _, _, e1, hxb, _, _, _⟩ := qQa.elem HSA.out t hlt2
      simp at e1
      obtain ⟨rfl, rfl⟩ := e1
      have cx := (Bel.cells HB.out _ _ (by omega)).trans (HSA.out.int_cell t hlt2)
      have hin : S[t] ∈ S := List.getElem_mem hlt2
      have htk : S.take (t + 1) = S.take t ++ [S[t]] := List.take_succ_eq_append_getElem hlt2
      obtain ⟨hs1, hs2⟩ := HSUB.out S t hlt2
      have HT : Hid ((k : Int) :: (S.take (t + 1)).flatMap (allF d f) = out ++ allF d f S[t]) := lH (by rw [htk, HP.out]; simp only [List.flatMap_append, List.flatMap_cons, List.flatMap_nil, List.append_nil, List.cons_append])
      rw [htk] at hs2
      have hout := congrArg List.length HP.out
      simp only [List.flatMap_append, List.flatMap_cons, List.flatMap_nil, List.append_nil, List.length_append, List.length_cons] at hs2 hout
      have hLL := HL.out
      have HC := lH (ih m _ d S[t] _ (HV.out.later HB.out hm) (Nat.le_trans hm S0) (HE1.out _ hin) (by omega))
      have hol : out.length + (allF d f S[t]).length <= 1000000000 := by omega
      clear htk hs1 hs2 hout hLL hin
      generalize S[t] = x at *
      go_wp2_with (first
 | (at_builtin; go_must (refine qZh rfl _ _ _ rfl qQ4 (by decide) rfl HO2.out rfl HX2.out.read (fun cs y _ h => qZe _ cs y h) (by omega) (by omega) (by omega) (fun _ _ _ _ _ h => h) ?_); intro v3 w3 o3 g3 _ f3; have HO3 := lH o3; have HG3 := lH g3; clear o3 g3 f3)
 | (go_at_call 137; (with_reducible refine HC.out.mono ?_); rintro e w2 ⟨b2, x2, rfl, o2'⟩; have HB2 := lH b2; have S2 := b2.size; have HX2 := lH o2'; have HO2 := lH (HO.out.below b2 (Nat.le_refl _) (fun _ _ _ h => h)); clear b2 o2'))
      go_roundw
      case rel => exact ⟨t + 1, _, by omega, by go_num, HO3.out, HT.out.symm, Below.own (Bel.then HB.out HB2.out) (Nat.le_refl _) HO2.out HG3.out⟩
      case measure => simp [intOf]; omega
    · have hPS : out = (k : Int) :: S.flatMap (allF d f) := by rw [HP.out, List.take_of_length_le (by omega)]
      have HPS := lH hPS
      have f5 := KB5.out _ HB.out
      clear hPS HP
      go_wp2
      go_loopw [38, 5] (fun i o wr => ∃ (t : Nat) (out2 : List Int), t <= K.length /\ i = .int .i64 t /\ qQc 1 qQk w.heap.size 3 wr o out2 /\ out2 = out ++ (K.take t).flatMap (allF d f) /\ Below w.heap.size w wr) (fun i _ _ => K.length - (intOf i).toNat)
      case atStart => exact ⟨0, out, by omega, rfl, HO.out, by simp, HB.out⟩
      case round =>
       clear o1 o2 HO HB f5
       obtain ⟨u, out2, hu, rfl, hO, hP, hB⟩ := hrel
       have HO := lH hO
       have HP := lH hP
       have HB := lH hB
       obtain ⟨oa, ocap, rfl, o1, o2⟩ := qQa.form hO.read
       have S0 := hB.size
       clear hO hP hB
       by_cases hlt3 : u < K.length
       · obtain ⟨xb, xo, _, _, e1, hxb, _, _, _⟩ := qQa.elem HKA.out u hlt3
         simp at e1
         obtain ⟨rfl, rfl⟩ := e1
         have cx := (Bel.cells HB.out _ _ (by omega)).trans (HKA.out.int_cell u hlt3)
         have hin : K[u] ∈ K := List.getElem_mem hlt3
         have htk : K.take (u + 1) = K.take u ++ [K[u]] := List.take_succ_eq_append_getElem hlt3
         obtain ⟨hs1, hs2⟩ := HSUB.out K u hlt3
         have HT : Hid (out ++ (K.take (u + 1)).flatMap (allF d f) = out2 ++ allF d f K[u]) := lH (by rw [htk, HP.out]; simp only [List.flatMap_append, List.flatMap_cons, List.flatMap_nil, List.append_nil, List.append_assoc])
         rw [htk] at hs2
         have hout := congrArg List.length HP.out
         have hout2 := congrArg List.length HPS.out
         simp only [List.flatMap_append, List.flatMap_cons, List.flatMap_nil, List.append_nil, List.length_append, List.length_cons] at hs2 hout hout2
         have hLL := HL.out
         have HC := lH (ih m _ d K[u] _ (HV.out.later HB.out hm) (Nat.le_trans hm S0) (HE2.out _ hin) (by omega))
         have hol : out2.length + (allF d f K[u]).length <= 1000000000 := by omega
         clear htk hs1 hs2 hout hout2 hLL hin
         generalize K[u] = x at *
         go_wp2_with (first
 | (at_builtin; go_must (refine qZh rfl _ _ _ rfl qQ4 (by decide) rfl HO2.out rfl HX2.out.read (fun cs y _ h => qZe _ cs y h) (by omega) (by omega) (by omega) (fun _ _ _ _ _ h => h) ?_); intro v3 w3 o3 g3 _ f3; have HO3 := lH o3; have HG3 := lH g3; clear o3 g3 f3)
 | (go_at_call 137; (with_reducible refine HC.out.mono ?_); rintro e w2 ⟨b2, x2, rfl, o2'⟩; have HB2 := lH b2; have S2 := b2.size; have HX2 := lH o2'; have HO2 := lH (HO.out.below b2 (Nat.le_refl _) (fun _ _ _ h => h)); clear b2 o2'))
         go_roundw
         case rel => exact ⟨u + 1, _, by omega, by go_num, HO3.out, HT.out.symm, Below.own (Bel.then HB.out HB2.out) (Nat.le_refl _) HO2.out HG3.out⟩
         case measure => simp [intOf]; omega
       · have hF : out2 = (k : Int) :: (S ++ K).flatMap (allF d f) := by rw [HP.out, List.take_of_length_le (by omega), HPS.out]; simp
         have HF := lH hF
         clear hF HP
         go_wp2
         go_ret
         exact ⟨HB.out, _, rfl, HF.out ▸ HO.out⟩
end Go.Proofs.YtklbmkaomojciaaGreat
