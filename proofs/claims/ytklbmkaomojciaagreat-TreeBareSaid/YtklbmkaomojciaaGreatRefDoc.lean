/- The document's answer about documents: walks. -/
import Derived.Test.YtklbmkaomojciaaGreatMem
import Derived.Test.YtklbmkaomojciaaGreatPlains
import Derived.Test.YtklbmkaomojciaaGreatProg
import Derived.WalkLawsBesides
import Derived.WalkSpells
import Derived.Deep.QuietTactic
import Derived.BigQuiet
import Derived.RegionTactic
set_option maxRecDepth 100000
set_option maxHeartbeats 2000000
namespace Go.Proofs.YtklbmkaomojciaaGreat
open Go.RowKit
def qHa : World -> List Value -> Att -> Prop := fun _ cs a => cs = [.string ⟨a.name.toArray⟩, .string ⟨a.value.toArray⟩]
theorem qQr : qGd qHa := fun _ _ _ _ h => h
abbrev qJ8 (n : Nat) (w : World) (v : Value) (l : List Att) : Prop := qQa 2 qHa (· < n) w v l
abbrev qZh (n : Nat) (w : World) (v : Value) (l : List Int) : Prop := qQa 1 qQl (· < n) w v l
def qYi (B : Nat -> Prop) : World -> List Value -> Nd -> Prop := fun w cs x => ∃ av kv sv,
 cs = [.bool x.live, .string ⟨x.tag.toArray⟩, .string ⟨x.text.toArray⟩, av, .int .i64 x.up, kv, .bool x.hasS, sv, .bool x.inS] /\ qQa 2 qHa B w av x.attrs /\ qQa 1 qQl B w kv x.kids /\ qQa 1 qQl B w sv x.shadow
abbrev rdNd (n : Nat) : World -> List Value -> Nd -> Prop := qYi (· < n)
def qYs (B : Nat -> Prop) (w : World) (v : Value) (d : Dc) : Prop := qQa 9 (qYi B) B w v d
theorem qYi.agree {B : Nat -> Prop} {w w' : World} {cs : List Value} {x : Nd} (h : qYi B w cs x) (ha : qQt B w w') : qYi B w' cs x := by
 obtain ⟨av, kv, sv, h1, h2, h3, h4⟩ := h
 exact ⟨av, kv, sv, h1, h2.agree ha (fun _ _ _ h => h), h3.agree ha (fun _ _ _ h => h), h4.agree ha (fun _ _ _ h => h)⟩
theorem qYi.mono {B C : Nat -> Prop} {w : World} {cs : List Value} {x : Nd} (h : qYi B w cs x) (hc : ∀ b, B b -> C b) : qYi C w cs x := by
 obtain ⟨av, kv, sv, h1, h2, h3, h4⟩ := h
 exact ⟨av, kv, sv, h1, h2.mono hc (fun _ _ _ h => h), h3.mono hc (fun _ _ _ h => h), h4.mono hc (fun _ _ _ h => h)⟩
theorem qYs.agree {B : Nat -> Prop} {w w' : World} {v : Value} {d : Dc} (h : qYs B w v d) (ha : qQt B w w') : qYs B w' v d := qQa.agree h ha (fun _ _ _ hr => hr.agree ha)
theorem qYs.mono {B C : Nat -> Prop} {w : World} {v : Value} {d : Dc} (h : qYs B w v d) (hc : ∀ b, B b -> C b) : qYs C w v d := qQa.mono h hc (fun _ _ _ hr => hr.mono hc)
def qQk (n : Nat) (w : World) (v : Value) (d : Dc) : Prop := qQa 9 (rdNd n) (· < n) w v d
theorem rdNd.later {n m : Nat} {w w' : World} {cs : List Value} {x : Nd} (h : rdNd n w cs x) (hb : Below m w w') (hn : n <= m) : rdNd n w' cs x := by
 obtain ⟨av, kv, sv, h1, h2, h3, h4⟩ := h
 exact ⟨av, kv, sv, h1, h2.later qQr hb hn, h3.later qQd hb hn, h4.later qQd hb hn⟩
theorem rdNd.raise {n m : Nat} {w : World} {cs : List Value} {x : Nd} (h : rdNd n w cs x) (hn : n <= m) : rdNd m w cs x := by
 obtain ⟨av, kv, sv, h1, h2, h3, h4⟩ := h
 have hh : ∀ b : Nat, b < n -> b < m := fun b h => Nat.lt_of_lt_of_le h hn
 exact ⟨av, kv, sv, h1, h2.mono hh (fun _ _ _ h => h), h3.mono hh (fun _ _ _ h => h), h4.mono hh (fun _ _ _ h => h)⟩
theorem qQk.later {n m : Nat} {w w' : World} {v : Value} {d : Dc} (h : qQk n w v d) (hb : Below m w w') (hn : n <= m) : qQk n w' v d :=
 qQa.agree h (qQt.mono (qQt.below hb) (fun _ hb => Nat.lt_of_lt_of_le hb hn)) (fun _ _ _ hr => hr.later hb hn)
theorem qQk.raise {n m : Nat} {w : World} {v : Value} {d : Dc} (h : qQk n w v d) (hn : n <= m) : qQk m w v d :=
 qQa.mono h (fun _ h => Nat.lt_of_lt_of_le h hn) (fun _ _ _ hr => hr.raise hn)
def lenV : Value -> Nat | .slice _ n _ => n | _ => 0
structure NdCells (n : Nat) (w : World) (b o : Nat) (x : Nd) (av kv sv : Value) : Prop where
 live : w.cell? ⟨b, o, none⟩ = some (.bool x.live)
 tag : w.cell? ⟨b, o + 1, none⟩ = some (.string ⟨x.tag.toArray⟩)
 text : w.cell? ⟨b, o + 2, none⟩ = some (.string ⟨x.text.toArray⟩)
 atts : w.cell? ⟨b, o + 3, none⟩ = some av
 up : w.cell? ⟨b, o + 4, none⟩ = some (.int .i64 x.up)
 kids : w.cell? ⟨b, o + 5, none⟩ = some kv
 hasS : w.cell? ⟨b, o + 6, none⟩ = some (.bool x.hasS)
 shadow : w.cell? ⟨b, o + 7, none⟩ = some sv
 inS : w.cell? ⟨b, o + 8, none⟩ = some (.bool x.inS)
 attsAt : qJ8 n w av x.attrs
 kidsAt : qZh n w kv x.kids
 shadowAt : qZh n w sv x.shadow
theorem qF2 {n : Nat} {w : World} {b o : Nat} {x : Nd} {cs : List Value} (h : Cells w b o cs) (hr : rdNd n w cs x) : ∃ av kv sv, NdCells n w b o x av kv sv := by
 obtain ⟨av, kv, sv, rfl, h2, h3, h4⟩ := hr
 exact ⟨av, kv, sv, by simpa using h 0 _ rfl, h 1 _ rfl, h 2 _ rfl, h 3 _ rfl, h 4 _ rfl, h 5 _ rfl, h 6 _ rfl, h 7 _ rfl, h 8 _ rfl, h2, h3, h4⟩
theorem qQk.node {n : Nat} {w : World} {v : Value} {d : Dc} (h : qQk n w v d) (i : Nat) (hi : i < d.length) :
 ∃ b off cap av kv sv, v = .slice (some ⟨b, off, none⟩) d.length cap /\ d.length <= cap /\ cap <= 9223372036854775807 /\ b < n /\ NdCells n w b (off + i * 9) d[i] av kv sv := by
 obtain ⟨a, cap0, e0, e1, e2⟩ := qQa.form h
 obtain ⟨b, off, cap, cs, h1, h2, h3, h4, h5⟩ := qQa.elem h i hi
 obtain ⟨av, kv, sv, hN⟩ := qF2 h4 h5
 rw [h1] at e0
 simp at e0
 obtain ⟨_, rfl⟩ := e0
 exact ⟨b, off, cap, av, kv, sv, h1, e1, e2, h2, hN⟩
theorem qYs.node {B : Nat -> Prop} {w : World} {v : Value} {d : Dc} (h : qYs B w v d) (hBl : ∀ b, B b -> b < w.heap.size) (i : Nat) (hi : i < d.length) :
 ∃ b off cap av kv sv, v = .slice (some ⟨b, off, none⟩) d.length cap /\ d.length <= cap /\ cap <= 9223372036854775807 /\ b < w.heap.size /\ NdCells w.heap.size w b (off + i * 9) d[i] av kv sv /\ qQa 2 qHa B w av d[i].attrs := by
 obtain ⟨a, cap0, e0, e1, e2⟩ := qQa.form h
 obtain ⟨b, off, cap, cs, h1, h2, h3, h4, h5⟩ := qQa.elem h i hi
 have h5' := h5
 obtain ⟨av, kv, sv, rfl, q2, q3, q4⟩ := h5'
 have g0 := h4
 obtain ⟨av', kv', sv', hN⟩ := qF2 h4 (h5.mono hBl)
 have e3 : av' = av := by
  have a1 := hN.atts
  have a2 := g0 3 av rfl
  rw [a2] at a1
  exact (Option.some.inj a1).symm
 rw [e3] at hN
 rw [h1] at e0
 simp at e0
 obtain ⟨_, rfl⟩ := e0
 exact ⟨b, off, cap, av, kv', sv', h1, e1, e2, hBl _ h2, hN, q2⟩
end Go.Proofs.YtklbmkaomojciaaGreat
namespace Go.Proofs.YtklbmkaomojciaaGreat
open Go.RowKit
theorem qQ3 (m : Nat) (v : Value) (d : Dc) (n : Int) (el : Bool) (w : World) (hv : qQk m w v d) :
 Calls Tryz.prog 28 #[v, .int .i64 n, .bool el] w (Rv (.bool (isM d n el)) w) := by
 obtain ⟨a, cap, e0, h1, h2⟩ := qQa.form hv
 by_cases hn : 0 <= n
 · by_cases hl : n < (d.length : Int)
   · obtain ⟨k, rfl⟩ := Int.eq_ofNat_of_zero_le hn
     have hk : k < d.length := by omega
     obtain ⟨b, off, cap', av, kv, sv, rfl, -, -, -, hN⟩ := hv.node k hk
     have c1 := hN.live
     have c2 := hN.tag
     have hi : isM d k el = (d[k].live && (!el || !d[k].tag.isEmpty)) := by simp [isM, qQq hk, hk]
     rw [hi]
     clear hi hN e0 hv
     generalize d[k].live = lv at *
     generalize d[k].tag = tg at *
     go_enter Tryz.func28, Tryz.ntmps28
     rcases lv with - | -
     · go_wp2
       go_ret
       exact ⟨rfl, rfl⟩
     · rcases el with - | -
       · go_wp2
         go_ret
         exact ⟨rfl, rfl⟩
       · go_wp2
         go_ret
         exact ⟨qZp (by simp), rfl⟩
   · subst e0
     have hi : isM d n el = false := by simp [isM]; omega
     rw [hi]
     go_enter Tryz.func28, Tryz.ntmps28
     go_wp2
     go_ret
     exact ⟨rfl, rfl⟩
 · subst e0
   have hi : isM d n el = false := by simp [isM]; omega
   rw [hi]
   go_enter Tryz.func28, Tryz.ntmps28
   go_wp2
   go_ret
   exact ⟨rfl, rfl⟩
theorem qWu {m : Nat} {w : World} {b o len cap : Nat} {l : List Att} (h : qJ8 m w (.slice (some ⟨b, o, none⟩) len cap) l) (i : Nat) (hi : i < l.length) :
 w.cell? ⟨b, o + i * 2, none⟩ = some (.string ⟨l[i].name.toArray⟩) /\ w.cell? ⟨b, o + i * 2 + 1, none⟩ = some (.string ⟨l[i].value.toArray⟩) := by
 obtain ⟨b', off', cap', cs, h1, _, h2, h3, h4⟩ := qQa.elem h i hi
 simp at h1
 obtain ⟨⟨rfl, rfl⟩, _, _⟩ := h1
 cases h4
 exact ⟨by simpa using h3.at 0 (by simp), by simpa using h3.at 1 (by simp)⟩
theorem qZz (m : Nat) (v : Value) (d : Dc) (n : Int) (s : Txt) (w : World) (hv : qQk m w v d) (hm : m <= w.heap.size) :
 Calls Tryz.prog 27 #[v, .int .i64 n, .string ⟨s.toArray⟩] w (Rb (.tuple #[.string ⟨((qZv d n s).getD []).toArray⟩, .bool (qZv d n s).isSome]) w) := by
 by_cases hi : isM d n true = true
 · obtain ⟨k, hk, rfl, -⟩ := qQm.1 (qZe hi)
   obtain ⟨b, off, cap', av, kv, sv, rfl, -, -, -, hN⟩ := hv.node k hk
   have c1 := hN.atts
   have hA := hN.attsAt
   have hI := qQ3 m _ d k true w hv
   rw [hi] at hI
   have hr : qZv d k s = qJi d[k].attrs s := by simp [qZv, hi, qQq hk]
   rw [hr]
   clear hr hN hi
   generalize d[k].attrs = l at *
   obtain ⟨a, cap, rfl, l1, l2⟩ := qQa.form hA
   clear hv
   go_enter Tryz.func27, Tryz.ntmps27
   go_wp2_with fail
   (with_reducible refine hI.mono ?_)
   rintro e w1 ⟨rfl, rfl⟩
   go_wp2
   go_loopw [19] (fun i wr => ∃ j : Nat, j <= l.length /\ i = .int .i64 j /\ qJi (l.drop j) s = qJi l s /\ Below w.heap.size w wr) (fun i _ => l.length - (intOf i).toNat)
   case atStart => exact ⟨0, by omega, rfl, rfl, Below.refl _ _⟩
   case round =>
    obtain ⟨j, hj, rfl, hF, hB⟩ := hrel
    have HB := lH hB
    have HF := lH hF
    have hA' := qQa.later hA qQr hB hm
    clear hB hF
    by_cases hlt : j < l.length
    · obtain ⟨bb, oo, _, _, e1, _, _, _, _⟩ := qQa.elem hA' j hlt
      simp at e1
      obtain ⟨rfl, rfl⟩ := e1
      obtain ⟨d1, d2⟩ := qWu hA' j hlt
      have hd : l.drop j = l[j] :: l.drop (j + 1) := List.drop_eq_getElem_cons hlt
      rw [hd] at HF
      generalize l[j] = x at *
      clear hA hA' hd
      by_cases hx : x.name = s
      · have hr : qJi l s = some x.value := by rw [<- HF.out]; simp [qJi, hx]
        have hb : (x.name == s) = true := by simpa using hx
        rw [hr]
        clear hr hx
        go_wp2
        go_ret2
        refine ⟨rfl, ?_⟩
        exact Bel.alloc HB.out _
      · have hr : qJi (l.drop (j + 1)) s = qJi l s := by rw [<- HF.out]; simp [qJi, hx]
        have hb : (x.name == s) = false := by simpa using hx
        have HF := lH hr
        clear hr hx
        go_wp2
        go_roundw
        case rel => exact ⟨j + 1, by omega, by go_num, HF.out, Bel.alloc HB.out _⟩
        case measure => simp [intOf]; omega
    · have hr : qJi l s = none := by rw [<- HF.out, List.drop_eq_nil_of_le (by omega)]; rfl
      have HR := lH hr
      clear hA hA' hr
      go_wp2
      go_ret2
      exact ⟨by simp [HR.out], HB.out⟩
 · have hI := qQ3 m _ d n true w hv
   have hi : isM d n true = false := by simpa using hi
   rw [hi] at hI
   have hr : qZv d n s = none := by simp [qZv, hi]
   rw [hr]
   clear hr
   go_enter Tryz.func27, Tryz.ntmps27
   go_wp2_with fail
   (with_reducible refine hI.mono ?_)
   rintro e w1 ⟨rfl, rfl⟩
   go_wp2
   go_ret2
   exact ⟨by simp, Below.refl _ _⟩
theorem qQ4 : SlT Tryz.prog 29 3 1 8 := by
 refine ⟨by kernel_rfl, ?_⟩
 obtain ⟨i, h1, h2, h3, h4⟩ := info_parts (by kernel_rfl : (Tryz.prog.info? 3).map (fun i => (i.zero, i.size, i.bytes)) = some (some (.int .i64 0), 1, 8))
 exact ⟨i, _, h1, h2, h3, h4, rfl⟩
theorem zXk (d : Dc) (L : Nat) (out : List Int) (n : Int) (hL : out.length <= L) (hi : isM d n false = true) : out ++ pathF d (L + 1 - out.length) n = (out ++ [n]) ++ pathF d (L + 1 - (out ++ [n]).length) (nd d n).up := by
 obtain ⟨j, hj⟩ : ∃ j, L + 1 - out.length = j + 1 := ⟨L - out.length, by omega⟩
 rw [hj, pathF, if_pos hi, show L + 1 - (out ++ [n]).length = j by simp; omega]
 simp
theorem qXz (m : Nat) (v : Value) (d : Dc) (n : Int) (w : World) (hv : qQk m w v d) (hm : m <= w.heap.size) (hd : d.length <= 1000000000) :
 Calls Tryz.prog 144 #[v, .int .i64 n] w (Rn w fun w' x => qQb 1 qQl w.heap.size 3 w' x (qKx d n)) := by
 obtain ⟨a1, cap1, rfl, h1, h2⟩ := qQa.form hv
 have HV := lH hv
 clear hv
 go_enter Tryz.func144, Tryz.ntmps144
 go_wp2
 go_loopw [1, 5] (fun i o wr => ∃ (k : Int) (out : List Int), i = .int .i64 k /\ out.length <= d.length + 1 /\ out ++ pathF d (d.length + 1 - out.length) k = qKx d n /\ qQb 1 qQl w.heap.size 3 wr o out /\ Below w.heap.size w wr) (fun _ o _ => d.length + 1 - lenV o)
 case atStart => exact ⟨n, [], rfl, by simp, rfl, qQb.nil _ _ _, Below.refl _ _⟩
 case round =>
  obtain ⟨k, out, rfl, ho, hp, hO, hB⟩ := hrel
  have HP := lH hp
  have HO := lH hO
  have HB := lH hB
  have hv := HV.out.later hB hm
  obtain ⟨oa, ocap, rfl, o1, o2⟩ := qQa.form hO.read
  clear hp hO hB
  have HI := lH (qQ3 m _ d k false wr hv)
  have S0 := HB.out.size
  cases hi : isM d k false with
  | false =>
    rw [hi] at HI
    have HR : Hid (out = qKx d n) := lH (by
     have := HP.out
     cases hq : d.length + 1 - out.length with
 | zero => rw [hq, pathF] at this; simpa using this
 | succ q => rw [hq, pathF, hi] at this; simpa using this)
    clear hv
    go_wp2_with (go_at_call 28; refine HI.out.mono ?_; rintro e w1 ⟨rfl, rfl⟩)
    go_ret
    exact ⟨HB.out, _, rfl, by rw [<- HR.out]; exact HO.out⟩
  | true =>
    rw [hi] at HI
    by_cases hl : out.length <= d.length
    · have HQ := lH (zXk d d.length out k hl hi)
      obtain ⟨kk, hkk, rfl, -⟩ := qQm.1 hi
      obtain ⟨b, off, cap', av, kv, sv, e1, -, -, hbb, hN⟩ := HV.out.node kk hkk
      simp at e1
      obtain ⟨rfl, rfl⟩ := e1
      have hup : nd d kk = d[kk] := qQq hkk
      rw [hup] at HQ
      have C4 : ∀ W', Below w.heap.size w W' -> W'.cell? ⟨b, off + kk * 9 + 4, none⟩ = some (.int .i64 d[kk].up) := fun W' hW => (Bel.cells hW _ _ (by omega)).trans hN.up
      clear hN hv hup
      generalize d[kk].up = u at *
      go_wp2_with (first
 | (at_builtin; go_must (refine qQz rfl _ _ _ rfl qQ4 (by decide) qQd qZf rfl HO.out rfl rfl (kk : Int) ⟨rfl, rfl⟩ (by omega) (by omega) S0 ?_); intro v1 w1 o1 g1; obtain ⟨oa1, ocap1, rfl, _, _⟩ := qQa.form o1.read; have c4 := C4 w1 (Below.own HB.out (Nat.le_refl _) HO.out g1); have HO1 := lH o1; have HB1 := lH (Below.own HB.out (Nat.le_refl _) HO.out g1); clear o1 g1)
 | (go_at_call 28; refine HI.out.mono ?_; rintro e w1 ⟨rfl, rfl⟩))
      go_roundw
      case rel => exact ⟨_, out ++ [(kk : Int)], rfl, by simp; omega, by rw [<- HQ.out]; exact HP.out, by simpa using HO1.out, HB1.out⟩
      case measure => simp [lenV]; omega
    · have HR : Hid (out = qKx d n) := lH (by
       have := HP.out
       rw [show d.length + 1 - out.length = 0 by omega, pathF] at this; simpa using this)
      clear hv
      go_wp2_with (go_at_call 28; refine HI.out.mono ?_; rintro e w1 ⟨rfl, rfl⟩)
      go_ret
      exact ⟨HB.out, _, rfl, by rw [<- HR.out]; exact HO.out⟩
theorem qX0 {l : List Int} {x : Int} {j : Nat} (h : (l.take j).contains x = false) (hj : j < l.length) (hx : l[j] ≠ x) : (l.take (j + 1)).contains x = false := by
 rw [List.take_succ_eq_append_getElem hj]
 simp only [List.contains_eq_mem, List.mem_append, List.mem_singleton, decide_eq_false_iff_not] at h ⊢
 exact fun g => g.elim h (fun g => hx g.symm)
theorem qK1 (m : Nat) (v : Value) (d : Dc) (n i : Int) (w : World) (hv : qQk m w v d) (hm : m <= w.heap.size) (hd : d.length <= 1000000000) :
 Calls Tryz.prog 111 #[v, .int .i64 n, .int .i64 i] w (Rb (.bool (qK0 d n i)) w) := by
 have HP := lH (qXz m v d n w hv hm hd)
 have hlen : (qKx d n).length <= d.length + 1 := qYr _ _ _
 have hW : qK0 d n i = (qKx d n).contains i := rfl
 rw [hW]
 clear hv hW
 generalize qKx d n = l at *
 go_enter Tryz.func111, Tryz.ntmps111
 go_wp2_with fail
 (with_reducible refine HP.out.mono ?_)
 rintro e w1 ⟨b1, x, rfl, hO⟩
 have hR := hO.read
 obtain ⟨a1, cap1, rfl, h1, h2⟩ := qQa.form hR
 have HB := lH b1
 clear b1 hO
 go_wp2
 go_loop [13] (fun z => ∃ j : Nat, j <= l.length /\ z = .int .i64 j /\ (l.take j).contains i = false) (fun z => l.length - (intOf z).toNat)
 case atStart => exact ⟨0, by omega, rfl, rfl⟩
 case round =>
  obtain ⟨j, hj, rfl, hF⟩ := hrel
  have HF := lH hF
  clear hF
  by_cases hlt : j < l.length
  · obtain ⟨_, _, _, _, e1, _, _, _, _⟩ := qQa.elem hR j hlt
    simp at e1
    obtain ⟨rfl, rfl⟩ := e1
    have c1 := hR.int_cell j hlt
    by_cases hx : l[j] = i
    · have hr : l.contains i = true := by rw [<- hx]; simp
      have hb : (l[j] == i) = true := by simpa using hx
      rw [hr]
      generalize l[j] = y at *
      clear hR hr
      go_wp2
      go_ret
      exact ⟨rfl, HB.out⟩
    · have HF2 := lH (qX0 HF.out hlt hx)
      have hb : (l[j] == i) = false := by simpa using hx
      generalize l[j] = y at *
      clear hR
      go_wp2
      go_round
      case rel => exact ⟨j + 1, by omega, by go_num, HF2.out⟩
      case measure => simp [intOf]; omega
  · have HR : Hid (l.contains i = false) := lH (by have := HF.out; rwa [List.take_of_length_le (by omega)] at this)
    clear hR
    go_wp2
    go_ret
    exact ⟨qZp (by simpa using HR.out), HB.out⟩
theorem qXo {l : List Int} {p : Int -> Bool} {j : Nat} (h : (l.take j).find? p = none) (hj : j < l.length) (hx : p l[j] = false) : (l.take (j + 1)).find? p = none := by
 rw [List.take_succ_eq_append_getElem hj, List.find?_append, h]
 simp [hx]
theorem qVb {l : List Int} {p : Int -> Bool} {j : Nat} (h : (l.take j).find? p = none) (hj : j < l.length) (hx : p l[j] = true) : l.find? p = some l[j] := by
 have e : (l.take (j + 1) ++ l.drop (j + 1)).find? p = some l[j] := by
  rw [List.find?_append, List.take_succ_eq_append_getElem hj, List.find?_append, h]
  simp [hx]
 rwa [List.take_append_drop] at e
theorem qXf (m : Nat) (v : Value) (d : Dc) (n : Int) (w : World) (hv : qQk m w v d) (hm : m <= w.heap.size) (hd : d.length <= 1000000000) :
 Calls Tryz.prog 96 #[v, .int .i64 n] w (Rb (.int .i64 (qQn d n)) w) := by
 have HP := lH (qXz m v d n w hv hm hd)
 have hlen : (qKx d n).length <= d.length + 1 := qYr _ _ _
 have hW : qQn d n = (((qKx d n).find? (fun k => (nd d k).inS && decide (0 <= (nd d k).up))).map (fun k => (nd d k).up)).getD 0 := rfl
 have his : ∀ x ∈ qKx d n, isM d x false = true := fun x h => zKp h
 rw [hW]
 clear hW
 generalize qKx d n = l at *
 obtain ⟨av, acap, rfl, a1, a2⟩ := qQa.form hv
 go_enter Tryz.func96, Tryz.ntmps96
 go_wp2_with fail
 (with_reducible refine HP.out.mono ?_)
 rintro e w1 ⟨b1, x, rfl, hO⟩
 have hR := hO.read
 obtain ⟨a1, cap1, rfl, h1, h2⟩ := qQa.form hR
 have hv1 := hv.later b1 hm
 have HB := lH b1
 clear b1 hO hv
 go_wp2
 go_loop [11] (fun z => ∃ j : Nat, j <= l.length /\ z = .int .i64 j /\ (l.take j).find? (fun k => (nd d k).inS && decide (0 <= (nd d k).up)) = none) (fun z => l.length - (intOf z).toNat)
 case atStart => exact ⟨0, by omega, rfl, rfl⟩
 case round =>
  obtain ⟨j, hj, rfl, hF⟩ := hrel
  have HF := lH hF
  clear hF
  by_cases hlt : j < l.length
  · obtain ⟨_, _, _, _, e1, _, _, _, _⟩ := qQa.elem hR j hlt
    simp at e1
    obtain ⟨rfl, rfl⟩ := e1
    have c1 := hR.int_cell j hlt
    obtain ⟨kk, hkk, hke, -⟩ := qQm.1 (his _ (List.getElem_mem hlt))
    obtain ⟨b, off, cap', av, kv, sv, e1, -, -, hbb, hN⟩ := hv1.node kk hkk
    simp at e1
    obtain ⟨rfl, rfl⟩ := e1
    have c8 := hN.inS
    have c4 := hN.up
    have hup : nd d l[j] = d[kk] := by rw [hke]; exact qQq hkk
    have HA := lH (fun h => qXo HF.out hlt h)
    have HH := lH (fun h => qVb HF.out hlt h)
    simp only [hup] at HA HH
    rw [hke] at c1 HH
    clear hN hR hv1 his
    generalize hX : d[kk] = X at *
    obtain ⟨_, _, _, _, up, _, _, _, ins⟩ := X
    simp only at *
    rcases ins with - | -
    · have HF2 := lH (HA.out rfl)
      clear hX hup HA HH
      go_wp2
      go_round
      case rel => exact ⟨j + 1, by omega, by go_num, HF2.out⟩
      case measure => simp [intOf]; omega
    · by_cases hu : 0 <= up
      · have HR := lH (HH.out (by simpa using hu))
        have hnd : nd d (kk : Int) = _ := (qQq hkk).trans hX
        clear hX hup HA HH
        go_wp2
        go_ret
        exact ⟨qQh (by rw [HR.out]; simp [hnd]), HB.out⟩
      · have HF2 := lH (HA.out (by simpa using hu))
        clear hX hup HA HH
        go_wp2
        go_round
        case rel => exact ⟨j + 1, by omega, by go_num, HF2.out⟩
        case measure => simp [intOf]; omega
  · have HR : Hid (l.find? (fun k => (nd d k).inS && decide (0 <= (nd d k).up)) = none) := lH (by have := HF.out; rwa [List.take_of_length_le (by omega)] at this)
    clear hR hv1 his
    go_wp2
    go_ret
    exact ⟨qQh (by rw [HR.out]; rfl), HB.out⟩
end Go.Proofs.YtklbmkaomojciaaGreat
namespace Go.Proofs.YtklbmkaomojciaaGreat
open Go.RowKit
theorem qHf (w : World) (base : Nat) (n : Int) (hb : base <= w.heap.size) : qQb 1 qQl base 3 (w.alloc (.cells #[.int .i64 n] 3)) (.slice (some ⟨w.heap.size, 0, none⟩) 1 1) [n] :=
 ⟨[[.int .i64 n]], rfl, by intro i h h'; simp at h; subst h; exact ⟨rfl, rfl⟩, rfl, .inr ⟨w.heap.size, 1, _, rfl, hb, heap_alloc_new w _, Nat.le_refl _, by decide, rfl, rfl⟩⟩
theorem qBu : ∀ (f : Nat) (m : Nat) (v : Value) (d : Dc) (n : Int) (w : World), qQk m w v d -> m <= w.heap.size -> Ends d f n -> (allF d f n).length <= 1000000000 ->
 Calls Tryz.prog 95 #[v, .int .i64 n] w (Rn w fun w' x => qQb 1 qQl w.heap.size 3 w' x (allF d f n)) := by
 intro f
 induction f with
 | zero => intro m v d n w hv hm he; exact he.elim
 | succ f ih =>
 intro m v d n w hv hm he hL
 have HI := lH (qQ3 m v d n false w hv)
 cases hi : isM d n false with
 | false =>
   rw [hi] at HI
   have hr : allF d (f + 1) n = [] := by rw [allF, if_neg (by simp [hi])]
   rw [hr]
   go_enter Tryz.func95, Tryz.ntmps95
   go_wp2_with (go_at_call 28; refine HI.out.mono ?_; rintro e w1 ⟨rfl, rfl⟩)
   go_ret
   exact ⟨Below.refl _ _, _, rfl, qQb.nil _ _ _⟩
 | true =>
   rw [hi] at HI
   have hE := he hi
   have hr : allF d (f + 1) n = n :: ((nd d n).shadow ++ (nd d n).kids).flatMap (allF d f) := by rw [allF, if_pos hi]
   rw [hr] at hL ⊢
   obtain ⟨k, hk, rfl, -⟩ := qQm.1 hi
   rw [qQq hk] at hE hL ⊢
   clear hr hi he
   obtain ⟨b, off, cap', av, kv, sv, rfl, -, -, hbb, hN⟩ := hv.node k hk
   have c5 := hN.kids
   have c7 := hN.shadow
   have kAt := hN.kidsAt
   have sAt := hN.shadowAt
   clear hN
   generalize d[k].kids = K at *
   generalize d[k].shadow = S at *
   obtain ⟨ka, kc, rfl, k1, k2⟩ := qQa.form kAt
   obtain ⟨sa, sc, rfl, s1, s2⟩ := qQa.form sAt
   have b5 : ∀ W', Below w.heap.size w W' -> W'.cell? ⟨b, off + k * 9 + 5, none⟩ = some (.slice ka K.length kc) := fun W' hW => (Bel.cells hW _ _ (by omega)).trans c5
   have b7 : ∀ W', Below w.heap.size w W' -> W'.cell? ⟨b, off + k * 9 + 7, none⟩ = some (.slice sa S.length sc) := fun W' hW => (Bel.cells hW _ _ (by omega)).trans c7
   go_enter Tryz.func95, Tryz.ntmps95
   go_wp2_with (go_at_call 28; refine HI.out.mono ?_; rintro e w1 ⟨rfl, rfl⟩)
   have a0 := qHf w w.heap.size k (Nat.le_refl _)
   have B0 : Below w.heap.size w (w.alloc (.cells #[.int .i64 k] 3)) := (Below.refl _ _).alloc (Nat.le_refl _) _
   have e5 := b5 _ B0
   have e7 := b7 _ B0
   generalize hw0 : w.alloc (.cells #[.int .i64 k] 3) = w0 at *
   have hs0 : w0.heap.size = w.heap.size + 1 := by rw [<- hw0]; simp
   clear hw0
   go_region
   have p0 : ∃ w1 : World, w1 = (w0.alloc (.cells #[.slice sa S.length sc, .slice ka K.length kc] 29)).drew := ⟨_, rfl⟩
   obtain ⟨w1, hw1⟩ := p0
   have hs1 : w1.heap.size = w.heap.size + 2 := by rw [hw1]; simp [hs0]
   have hrow : (w0.alloc (.cells #[.slice sa S.length sc, .slice ka K.length kc] 29)).drew.heap[w.heap.size + 1]? = some (.cells #[.slice sa S.length sc, .slice ka K.length kc] 29 (0, 0)) := by
    have := heap_alloc_new w0 (.cells #[.slice sa S.length sc, .slice ka K.length kc] 29)
    rw [hs0] at this
    exact this
   have q0 : w1.cell? ⟨w.heap.size + 1, 0, none⟩ = some (.slice sa S.length sc) := by
    rw [hw1, cell_of_row _ (w.heap.size + 1) _ _ 29 (0, 0) hrow]; rfl
   have q1 : w1.cell? ⟨w.heap.size + 1, 1, none⟩ = some (.slice ka K.length kc) := by
    rw [hw1, cell_of_row _ (w.heap.size + 1) _ _ 29 (0, 0) hrow]; rfl
   have A1 : qQb 1 qQl w.heap.size 3 w1 (.slice (some ⟨w.heap.size, 0, none⟩) 1 1) [(k : Int)] := by
    rw [hw1]; exact (a0.alloc qQd _).agree (fun _ _ => rfl) (fun _ _ _ h => h)
   have B1 : Below w.heap.size w w1 := by rw [hw1]; exact (Below.alloc B0 (by simp [hs0]) _).trans ((Drew.refl _).more 1 |>.below _)
   clear hrow
   clear a0 B0 e5 e7 c5 c7
   rw [<- hw1]
   clear hw1 hs0 w0
   have Q0 := lH q0
   have Q1 := lH q1
   have HA1 := lH A1
   have HB1 := lH B1
   clear q0 q1 A1 B1
   go_wp2
   go_loopw [28, 5] (fun i o wr => ∃ (j : Nat) (out : List Int), j <= 2 /\ i = .int .i64 j /\ qQb 1 qQl w.heap.size 3 wr o out /\ out = (k : Int) :: (([S, K].take j).flatten).flatMap (allF d f) /\ o.ownBlock ≠ some (w.heap.size + 1) /\ qQt (· = w.heap.size + 1) w1 wr /\ Below w.heap.size w wr /\ w1.heap.size <= wr.heap.size) (fun i _ _ => 2 - (intOf i).toNat)
   case atStart => exact ⟨0, [(k : Int)], by omega, rfl, HA1.out, rfl, by simp [Value.ownBlock], qQt.refl _ _, HB1.out, Nat.le_refl _⟩
   case round =>
    obtain ⟨j, out, hj, rfl, hO, hP, hne, hAg, hB, hsz⟩ := hrel
    have HO := lH hO
    have HP := lH hP
    have HNE := lH hne
    have HAG := lH hAg
    have HB := lH hB
    obtain ⟨oa, ocap, rfl, o1, o2⟩ := qQa.form hO.read
    clear hO hP hne hAg hB
    by_cases hlt : j < 2
    · have hcase : ∃ (X : List Int) (xa : Option Addr) (xc : Nat), w1.cell? ⟨w.heap.size + 1, j, none⟩ = some (.slice xa X.length xc) /\ qZh m w (.slice xa X.length xc) X /\ X.length <= xc /\ xc <= 9223372036854775807 /\
       (∀ x ∈ X, Ends d f x) /\ ([S, K].take (j + 1)).flatten = ([S, K].take j).flatten ++ X /\ ∀ t, ((([S, K].take j).flatten ++ X.take t).flatMap (allF d f)).length <= ((S ++ K).flatMap (allF d f)).length := by
       obtain rfl | rfl : j = 0 ∨ j = 1 := by omega
       · refine ⟨S, sa, sc, Q0.out, sAt, s1, s2, fun x hx => hE x (List.mem_append_left _ hx), by simp, fun t => ?_⟩
         have := congrArg List.length (congrArg (List.flatMap (allF d f)) (List.take_append_drop t S))
         simp only [List.flatMap_append, List.length_append, List.take_zero, List.flatten_nil, List.nil_append] at this ⊢
         omega
       · refine ⟨K, ka, kc, Q1.out, kAt, k1, k2, fun x hx => hE x (List.mem_append_right _ hx), by simp, fun t => ?_⟩
         have := congrArg List.length (congrArg (List.flatMap (allF d f)) (List.take_append_drop t K))
         simp only [List.flatMap_append, List.length_append, List.take_succ_cons, List.take_zero, List.flatten_cons, List.flatten_nil, List.append_nil] at this ⊢
         omega
      obtain ⟨X, xa, xc, hx0, hXA, x1, x2, hXE, hXF, hXL⟩ := hcase
      have hxr := (World.cell?_of_block (a := ⟨w.heap.size + 1, j, none⟩) (HAG.out _ rfl)).trans hx0
      have HXE := lH hXE
      have HXF := lH hXF
      have HXL := lH hXL
      have HE := lH hE
      have HLL := lH hL
      clear hx0 hXE hXF hXL hE hL
      have hd2 : decide ((j : Int) < 2) = true := by simp; omega
      go_wp2
      go_loopw [34, 5] (fun i o wr => ∃ (t : Nat) (out : List Int), t <= X.length /\ i = .int .i64 t /\ qQb 1 qQl w.heap.size 3 wr o out /\ out = (k : Int) :: (([S, K].take j).flatten ++ X.take t).flatMap (allF d f) /\ o.ownBlock ≠ some (w.heap.size + 1) /\ qQt (· = w.heap.size + 1) w1 wr /\ Below w.heap.size w wr /\ w1.heap.size <= wr.heap.size) (fun i _ _ => X.length - (intOf i).toNat)
      case atStart => exact ⟨0, out, by omega, rfl, HO.out, by simpa using HP.out, HNE.out, HAG.out, HB.out, hsz⟩
      case round =>
       clear o1 o2 hsz HO HP HNE HAG HB hxr
       obtain ⟨t, out, ht, rfl, hO, hP, hne, hAg, hB, hsz⟩ := hrel
       have HO := lH hO
       have HP := lH hP
       have HNE := lH hne
       have HAG := lH hAg
       have HB := lH hB
       obtain ⟨oa, ocap, rfl, o1, o2⟩ := qQa.form hO.read
       clear hO hP hne hAg hB
       by_cases hlt2 : t < X.length
       · obtain ⟨xb, xo, _, _, e1, hxb, _, _, _⟩ := qQa.elem hXA t hlt2
         simp at e1
         obtain ⟨rfl, rfl⟩ := e1
         have cx := (Bel.cells HB.out _ _ (by omega)).trans (hXA.int_cell t hlt2)
         have hin : X[t] ∈ X := List.getElem_mem hlt2
         have S0 := HB.out.size
         have hlen1 := HXL.out t
         have hlen2 := HXL.out (t + 1)
         have htk : X.take (t + 1) = X.take t ++ [X[t]] := List.take_succ_eq_append_getElem hlt2
         have HT : Hid ((k : Int) :: (([S, K].take j).flatten ++ X.take (t + 1)).flatMap (allF d f) = out ++ allF d f X[t]) := lH (by rw [htk, HP.out]; simp only [List.flatMap_append, List.flatMap_cons, List.flatMap_nil, List.append_nil, List.cons_append, List.append_assoc])
         rw [htk] at hlen2
         have hout := congrArg List.length HP.out
         simp only [List.flatMap_append, List.flatMap_cons, List.flatMap_nil, List.append_nil, List.length_append, List.length_cons] at hlen1 hlen2 hout
         have hlL := HLL.out
         simp only [List.flatMap_append, List.length_append, List.length_cons] at hlL
         have HC := lH (ih m _ d X[t] _ (hv.later HB.out hm) (Nat.le_trans hm S0) (HXE.out _ hin) (by omega))
         have hol : out.length + (allF d f X[t]).length <= 1000000000 := by omega
         clear htk hlen1 hlen2 hout hlL hin
         generalize X[t] = x at *
         go_wp2_with (first
 | (at_builtin; go_must (refine qZj rfl _ _ _ rfl qQ4 (by decide) rfl HO2.out rfl HX2.out.read (fun cs y _ h => qZf _ cs y h) (by omega) (by omega) (by omega) (fun _ _ _ _ _ h => h) ?_); intro v3 w3 o3 g3 _ f3; have HO3 := lH o3; have HG3 := lH g3; have HF3 := lH f3; clear o3 g3 f3)
 | (go_at_call 95; (with_reducible refine HC.out.mono ?_); rintro e w2 ⟨b2, x2, rfl, o2'⟩; have HB2 := lH b2; have S2 := b2.size; have HX2 := lH o2'; have HO2 := lH (HO.out.below b2 (Nat.le_refl _) (fun _ _ _ h => h)); clear b2 o2'))
         go_roundw
         case rel =>
          have hne3 : v3.ownBlock ≠ some (w.heap.size + 1) := by
           rcases HF3.out with h | ⟨q, h, hq⟩
           · rw [h]; exact HNE.out
           · rw [h]; simp; omega
          have hag3 : qQt (· = w.heap.size + 1) w1 w3 := by
           intro b' hb'
           have hb'' : b' = w.heap.size + 1 := hb'
           rw [<- HAG.out b' hb', <- HB2.out.block b' (by omega)]
           exact HG3.out.block b' (by omega) (by rw [hb'']; exact fun e => HNE.out e.symm)
          exact ⟨t + 1, _, by omega, by go_num, HO3.out, HT.out.symm, hne3, hag3, Below.own (Bel.then HB.out HB2.out) (Nat.le_refl _) HO2.out HG3.out, Nat.le_trans hsz (Nat.le_trans S2 HG3.out.size)⟩
         case measure => simp [intOf]; omega
       · go_wp2
         go_roundw
         case rel => exact ⟨j + 1, out, by omega, by go_num, HO.out, by rw [HXF.out, HP.out, List.take_of_length_le (show X.length <= t by omega)], HNE.out, HAG.out, HB.out, hsz⟩
         case measure => simp [intOf]; omega
    · obtain rfl : j = 2 := by omega
      go_wp2
      go_ret
      exact ⟨HB.out, _, rfl, by have hq : out = _ := HP.out; have := HO.out; rw [show (k : Int) :: (S ++ K).flatMap (allF d f) = out by rw [hq]; simp]; exact this⟩
end Go.Proofs.YtklbmkaomojciaaGreat
namespace Go.Proofs.YtklbmkaomojciaaGreat
open Go.RowKit
theorem zZm {l : List Int} {k : Int} {j : Nat} (hj : j < l.length) : qQ1 (l.take (j + 1)) k = if l[j] = k then qQ1 (l.take j) k else qQ1 (l.take j) k ++ [l[j]] := by
 rw [List.take_succ_eq_append_getElem hj]
 unfold qQ1
 rw [List.filter_append]
 split
 · rename_i h; simp [h]
 · rename_i h; simp [h]
theorem qYb (m : Nat) (v : Value) (l : List Int) (k : Int) (w : World) (hv : qZh m w v l) (hm : m <= w.heap.size) (hl : l.length <= 1000000000) :
 Calls Tryz.prog 168 #[v, .int .i64 k] w (Rn w fun w' x => qQb 1 qQl w.heap.size 3 w' x (qQ1 l k)) := by
 obtain ⟨a1, cap1, rfl, h1, h2⟩ := qQa.form hv
 have HV := lH hv
 clear hv
 go_enter Tryz.func168, Tryz.ntmps168
 go_wp2
 go_loopw [10, 5] (fun i o wr => ∃ (j : Nat) (out : List Int), j <= l.length /\ i = .int .i64 j /\ out = qQ1 (l.take j) k /\ qQb 1 qQl w.heap.size 3 wr o out /\ Below w.heap.size w wr) (fun i _ _ => l.length - (intOf i).toNat)
 case atStart => exact ⟨0, [], by omega, rfl, rfl, qQb.nil _ _ _, Below.refl _ _⟩
 case round =>
  obtain ⟨j, out, hj, rfl, hP, hO, hB⟩ := hrel
  have HP := lH hP
  have HO := lH hO
  have HB := lH hB
  have hR := qQa.later HV.out qQd hB hm
  obtain ⟨oa, ocap, rfl, o1, o2⟩ := qQa.form hO.read
  clear hP hO hB
  by_cases hlt : j < l.length
  · obtain ⟨_, _, _, _, e1, _, _, _, _⟩ := qQa.elem hR j hlt
    simp at e1
    obtain ⟨rfl, rfl⟩ := e1
    have c1 := hR.int_cell j hlt
    have S0 := HB.out.size
    have hol : out.length <= 1000000000 := by
     rw [HP.out]; unfold qQ1
     exact Nat.le_trans (List.length_filter_le _ _) (by rw [List.length_take]; omega)
    have HW := lH (zZm (k := k) hlt)
    clear hR
    by_cases hx : l[j] = k
    · have hb : (l[j] != k) = false := by simpa using hx
      rw [if_pos hx] at HW
      generalize l[j] = y at *
      go_wp2
      go_roundw
      case rel => exact ⟨j + 1, out, by omega, by go_num, by rw [HW.out, HP.out], HO.out, HB.out⟩
      case measure => simp [intOf]; omega
    · have hb : (l[j] != k) = true := by simpa using hx
      rw [if_neg hx] at HW
      generalize l[j] = y at *
      go_wp2_with (at_builtin; go_must (refine qQz rfl _ _ _ rfl qQ4 (by decide) qQd qZf rfl HO.out rfl rfl y ⟨rfl, rfl⟩ (by omega) (by omega) S0 ?_); intro v1 w1 o1 g1; have HO1 := lH o1; have HB1 := lH (Below.own HB.out (Nat.le_refl _) HO.out g1); clear o1 g1)
      go_roundw
      case rel => exact ⟨j + 1, out ++ [y], by omega, by go_num, by rw [HW.out, HP.out], HO1.out, HB1.out⟩
      case measure => simp [intOf]; omega
  · have HR : Hid (out = qQ1 l k) := lH (by rw [HP.out, List.take_of_length_le (by omega)])
    clear hR
    go_wp2
    go_ret
    exact ⟨HB.out, _, rfl, by rw [<- HR.out]; exact HO.out⟩
def storeAll : World -> Nat -> Nat -> List Value -> World
 | w, _, _, [] => w
 | w, g, o, c :: cs => storeAll (w.setCell ⟨g, o, none⟩ c) g (o + 1) cs
def setAll : List Value -> Nat -> List Value -> List Value
 | xs, _, [] => xs
 | xs, o, c :: cs => setAll (xs.set o c) (o + 1) cs
theorem qDl : ∀ (cs xs : List Value) (o : Nat), (setAll xs o cs).length = xs.length := by
 intro cs
 induction cs with
 | nil => intro xs o; rfl
 | cons c cs ih => intro xs o; rw [setAll, ih]; simp
theorem qBw : ∀ (cs xs : List Value) (o j : Nat), j < o ∨ o + cs.length <= j -> (setAll xs o cs)[j]? = xs[j]? := by
 intro cs
 induction cs with
 | nil => intro xs o j _; rfl
 | cons c cs ih =>
   intro xs o j h
   simp only [List.length_cons] at h
   rw [setAll, ih _ _ _ (by omega), List.getElem?_set_ne (by omega)]
theorem zYr : ∀ (cs xs : List Value) (o j : Nat), o + cs.length <= xs.length -> j < cs.length -> (setAll xs o cs)[o + j]? = cs[j]? := by
 intro cs
 induction cs with
 | nil => intro xs o j _ h; simp at h
 | cons c cs ih =>
   intro xs o j h1 h2
   simp only [List.length_cons] at h1 h2
   rw [setAll]
   cases j with
   | zero =>
     have := qBw cs (xs.set o c) (o + 1) o (by omega)
     rw [List.getElem?_set_self (by omega)] at this
     exact this
   | succ j =>
     have := ih (xs.set o c) (o + 1) j (by simp; omega) (by omega)
     rw [show o + (j + 1) = o + 1 + j by omega, this]
     simp
theorem qBz {base : Nat} {e : TypeId} {size g n cap : Nat} : ∀ (cs : List Value) (w : World) (xs : List Value) (o : Nat), w.ownsRow base e size (.slice (some ⟨g, 0, none⟩) n cap) n xs ->
 (storeAll w g o cs).ownsRow base e size (.slice (some ⟨g, 0, none⟩) n cap) n (setAll xs o cs) /\ w.grownBy (storeAll w g o cs) (some g) := by
 intro cs
 induction cs with
 | nil => intro w xs o h; exact ⟨h, World.grownBy.refl _ _⟩
 | cons c cs ih =>
   intro w xs o h
   obtain ⟨h1, h2⟩ := h.stored o c
   obtain ⟨h3, h4⟩ := ih _ _ (o + 1) h1
   exact ⟨h3, qJy h2 h4⟩
theorem qFk : ∀ (xss : List (List Value)) (i : Nat) (cs : List Value) (sz : Nat), (∀ x ∈ xss, x.length = sz) -> cs.length = sz -> i < xss.length -> setAll xss.flatten (i * sz) cs = (xss.set i cs).flatten := by
 intro xss i cs sz hx hc hi
 have hset : ∀ x ∈ xss.set i cs, x.length = sz := fun x h => by
  rcases List.mem_or_eq_of_mem_set h with h | rfl
  · exact hx x h
  · exact hc
 apply List.ext_getElem?
 intro j
 have hl1 : (setAll xss.flatten (i * sz) cs).length = xss.length * sz := by rw [qDl, qKs hx]
 have hl2 : (xss.set i cs).flatten.length = xss.length * sz := by rw [qKs hset]; simp
 by_cases hj : j < xss.length * sz
 · have hsz : 0 < sz := Nat.pos_of_ne_zero (by rintro rfl; simp at hj)
   have hq : j / sz < xss.length := Nat.div_lt_of_lt_mul (by rw [Nat.mul_comm]; exact hj)
   have hr : j % sz < sz := Nat.mod_lt _ hsz
   have hj2 : j = j / sz * sz + j % sz := by rw [Nat.mul_comm]; exact (Nat.div_add_mod j sz).symm
   have hbound : i * sz + sz <= xss.length * sz := by rw [<- Nat.succ_mul]; exact Nat.mul_le_mul_right _ hi
   by_cases hqi : j / sz = i
   · have h1 := zYr cs xss.flatten (i * sz) (j % sz) (by rw [qKs hx, hc]; exact hbound) (by omega)
     have h2 := qJm hset i (by simpa using hi) (j % sz) _ (by rw [List.getElem_set_self]; exact List.getElem?_eq_getElem (by omega))
     rw [hj2, hqi, h1, h2]
     exact List.getElem?_eq_getElem (by omega)
   · have h1 : (setAll xss.flatten (i * sz) cs)[j]? = xss.flatten[j]? := qBw _ _ _ _ (by
      rcases Nat.lt_or_gt_of_ne hqi with h | h
      · left
        have : (j / sz + 1) * sz <= i * sz := Nat.mul_le_mul_right _ h
        rw [Nat.succ_mul] at this; omega
      · right
        have : (i + 1) * sz <= j / sz * sz := Nat.mul_le_mul_right _ h
        rw [Nat.succ_mul] at this; omega)
     have h3 := qJm hx (j / sz) hq (j % sz) _ (List.getElem?_eq_getElem (by rw [hx _ (List.getElem_mem hq)]; exact hr))
     have h2 := qJm hset (j / sz) (by simpa using hq) (j % sz) (xss[j / sz][j % sz]'(by rw [hx _ (List.getElem_mem hq)]; exact hr)) (by
      rw [List.getElem_set_ne (fun h => hqi h.symm)]
      exact List.getElem?_eq_getElem _)
     rw [h1]
     rw [<- hj2] at h2 h3
     rw [h2, h3]
 · rw [List.getElem?_eq_none (by omega), List.getElem?_eq_none (by omega)]
theorem qQb.stored {α : Type} {sz : Nat} {rd : World -> List Value -> α -> Prop} {base : Nat} {e : TypeId} {w : World} {g n cap : Nat} {l : List α} (h : qQb sz rd base e w (.slice (some ⟨g, 0, none⟩) n cap) l) (i : Nat) (hi : i < l.length) (cs : List Value) (x : α)
 (hn : n = l.length) (hc : cs.length = sz) (hr : rd (storeAll w g (i * sz) cs) cs x) (hk : ∀ ys y, y ∈ l -> rd w ys y -> rd (storeAll w g (i * sz) cs) ys y) :
 qQb sz rd base e (storeAll w g (i * sz) cs) (.slice (some ⟨g, 0, none⟩) n cap) (l.set i x) /\ w.grownBy (storeAll w g (i * sz) cs) (some g) := by
 subst hn
 obtain ⟨xss, q1, q2, q3⟩ := h
 obtain ⟨h1, h2⟩ := qBz cs w _ (i * sz) q3
 have hx : ∀ x ∈ xss, x.length = sz := by
  intro x hx
  obtain ⟨k, hk, rfl⟩ := List.getElem_of_mem hx
  exact (q2 k (by omega) hk).1
 rw [qFk xss i cs sz hx hc (by omega)] at h1
 refine ⟨⟨xss.set i cs, by simpa using q1, ?_, by simpa using h1⟩, h2⟩
 intro k hk1 hk2
 by_cases hki : i = k
 · subst hki
   simp only [List.getElem_set_self]
   exact ⟨hc, hr⟩
 · rw [List.getElem_set_ne hki, List.getElem_set_ne hki]
   have := q2 k (by simpa using hk1) (by simpa using hk2)
   exact ⟨this.1, hk _ _ (List.getElem_mem _) this.2⟩
end Go.Proofs.YtklbmkaomojciaaGreat
namespace Go.Proofs.YtklbmkaomojciaaGreat
open Go.RowKit
theorem qB1 : ∀ (f : Nat) (m : Nat) (v : Value) (d : Dc) (n : Int) (w : World), qQk m w v d -> m <= w.heap.size -> qG5 d f n -> f <= 1000000 ->
 Calls Tryz.prog 169 #[v, .int .i64 n] w (Rb (.int .i64 (qZa d f n : Nat)) w) := by
 intro f
 induction f with
 | zero => intro m v d n w hv hm he; exact he.elim
 | succ f ih =>
 intro m v d n w hv hm he hL
 obtain ⟨hi, hE⟩ := he
 have hr : qZa d (f + 1) n = maxL (((nd d n).shadow ++ (nd d n).kids).map (fun k => 1 + qZa d f k)) := rfl
 have hb := fun k => qH9 d f k
 rw [hr]
 obtain ⟨k, hk, rfl, -⟩ := qQm.1 hi
 rw [qQq hk] at hE ⊢
 clear hr hi
 obtain ⟨b, off, cap', av, kv, sv, rfl, -, -, hbb, hN⟩ := hv.node k hk
 have c5 := hN.kids
 have c7 := hN.shadow
 have kAt := hN.kidsAt
 have sAt := hN.shadowAt
 clear hN
 generalize d[k].kids = K at *
 generalize d[k].shadow = S at *
 obtain ⟨ka, kc, rfl, k1, k2⟩ := qQa.form kAt
 obtain ⟨sa, sc, rfl, s1, s2⟩ := qQa.form sAt
 go_enter Tryz.func169, Tryz.ntmps169
 go_wp2
 go_region
 have p0 : ∃ w1 : World, w1 = (w.alloc (.cells #[.slice sa S.length sc, .slice ka K.length kc] 29)).drew := ⟨_, rfl⟩
 obtain ⟨w1, hw1⟩ := p0
 have hs1 : w1.heap.size = w.heap.size + 1 := by rw [hw1]; simp
 have hrow : (w.alloc (.cells #[.slice sa S.length sc, .slice ka K.length kc] 29)).drew.heap[w.heap.size]? = some (.cells #[.slice sa S.length sc, .slice ka K.length kc] 29 (0, 0)) :=
  heap_alloc_new w (.cells #[.slice sa S.length sc, .slice ka K.length kc] 29)
 have q0 : w1.cell? ⟨w.heap.size, 0, none⟩ = some (.slice sa S.length sc) := by
  rw [hw1, cell_of_row _ w.heap.size _ _ 29 (0, 0) hrow]; rfl
 have q1 : w1.cell? ⟨w.heap.size, 1, none⟩ = some (.slice ka K.length kc) := by
  rw [hw1, cell_of_row _ w.heap.size _ _ 29 (0, 0) hrow]; rfl
 have B1 : Below w.heap.size w w1 := by rw [hw1]; exact (Below.alloc (Below.refl _ _) (Nat.le_refl _) _).trans ((Drew.refl _).more 1 |>.below _)
 clear hrow c5 c7
 rw [<- hw1]
 clear hw1
 have Q0 := lH q0
 have Q1 := lH q1
 have HB1 := lH B1
 clear q0 q1 B1
 go_wp2
 go_loopw [23, 5] (fun i o wr => ∃ (j : Nat), j <= 2 /\ i = .int .i64 j /\ o = .int .i64 ((maxL ((([S, K].take j).flatten).map (fun k => 1 + qZa d f k)) : Nat) : Int) /\ qQt (· = w.heap.size) w1 wr /\ Below w.heap.size w wr /\ w1.heap.size <= wr.heap.size) (fun i _ _ => 2 - (intOf i).toNat)
 case atStart => exact ⟨0, by omega, rfl, rfl, qQt.refl _ _, HB1.out, Nat.le_refl _⟩
 case round =>
  obtain ⟨j, hj, rfl, rfl, hAg, hB, hsz⟩ := hrel
  have HAG := lH hAg
  have HB := lH hB
  clear hAg hB
  have HE := lH hE
  have HBD := lH hb
  clear hE hb
  by_cases hlt : j < 2
  · have hcase : ∃ (X : List Int) (xa : Option Addr) (xc : Nat), w1.cell? ⟨w.heap.size, j, none⟩ = some (.slice xa X.length xc) /\ qZh m w (.slice xa X.length xc) X /\ X.length <= xc /\ xc <= 9223372036854775807 /\
     (∀ x ∈ X, qG5 d f x) /\ ([S, K].take (j + 1)).flatten = ([S, K].take j).flatten ++ X := by
     obtain rfl | rfl : j = 0 ∨ j = 1 := by omega
     · exact ⟨S, sa, sc, Q0.out, sAt, s1, s2, fun x hx => HE.out x (List.mem_append_left _ hx), by simp⟩
     · exact ⟨K, ka, kc, Q1.out, kAt, k1, k2, fun x hx => HE.out x (List.mem_append_right _ hx), by simp⟩
    obtain ⟨X, xa, xc, hx0, hXA, x1, x2, hXE, hXF⟩ := hcase
    have hxr := (World.cell?_of_block (a := ⟨w.heap.size, j, none⟩) (HAG.out _ rfl)).trans hx0
    have HXE := lH hXE
    have HXF := lH hXF
    clear hx0 hXE hXF
    have hd2 : decide ((j : Int) < 2) = true := by simp; omega
    go_wp2
    go_loopw [29, 5] (fun i o wr => ∃ (t : Nat), t <= X.length /\ i = .int .i64 t /\ o = .int .i64 ((maxL ((([S, K].take j).flatten ++ X.take t).map (fun k => 1 + qZa d f k)) : Nat) : Int) /\ qQt (· = w.heap.size) w1 wr /\ Below w.heap.size w wr /\ w1.heap.size <= wr.heap.size) (fun i _ _ => X.length - (intOf i).toNat)
    case atStart => exact ⟨0, by omega, rfl, by simp, HAG.out, HB.out, hsz⟩
    case round =>
     clear hsz HAG HB hxr
     obtain ⟨t, ht, rfl, rfl, hAg, hB, hsz⟩ := hrel
     have HAG := lH hAg
     have HB := lH hB
     clear hAg hB
     by_cases hlt2 : t < X.length
     · obtain ⟨xb, xo, _, _, e1, hxb, _, _, _⟩ := qQa.elem hXA t hlt2
       simp at e1
       obtain ⟨rfl, rfl⟩ := e1
       have cx := (Bel.cells HB.out _ _ (by omega)).trans (hXA.int_cell t hlt2)
       have hin : X[t] ∈ X := List.getElem_mem hlt2
       have S0 := HB.out.size
       have htk : X.take (t + 1) = X.take t ++ [X[t]] := List.take_succ_eq_append_getElem hlt2
       have HC := lH (ih m _ d X[t] _ (hv.later HB.out hm) (Nat.le_trans hm S0) (HXE.out _ hin) (by omega))
       have hq1 := HBD.out X[t]
       have hM := zWz ((([S, K].take j).flatten ++ X.take t).map (fun k => 1 + qZa d f k)) (1 + qZa d f X[t])
       have HT : Hid (maxL ((([S, K].take j).flatten ++ X.take (t + 1)).map (fun k => 1 + qZa d f k)) = max (maxL ((([S, K].take j).flatten ++ X.take t).map (fun k => 1 + qZa d f k))) (1 + qZa d f X[t])) := lH (by
        rw [<- hM, htk, <- List.append_assoc, List.map_append]; rfl)
       have hML : maxL ((([S, K].take j).flatten ++ X.take t).map (fun k => 1 + qZa d f k)) <= f + 1 := zY6 (fun z hz => by obtain ⟨y, _, rfl⟩ := List.mem_map.1 hz; have := HBD.out y; omega)
       clear htk hM hin
       generalize qZa d f X[t] = q at *
       generalize maxL ((([S, K].take j).flatten ++ X.take t).map (fun k => 1 + qZa d f k)) = M at *
       generalize X[t] = x at *
       by_cases hgt : M < 1 + q
       · have hE2 : Hid (max M (1 + q) = 1 + q) := lH (by omega)
         go_wp2_with (go_at_call 169; (with_reducible refine HC.out.mono ?_); rintro e w2 ⟨rfl, b2⟩; have HB2 := lH b2; have S2 := b2.size; clear b2)
         have hag2 : qQt (· = w.heap.size) w1 w2 := by
          intro b' hb'
          have hb'' : b' = w.heap.size := hb'
          rw [<- HAG.out b' hb']
          exact HB2.out.block b' (by omega)
         exact ⟨⟨t + 1, by omega, by go_num, by rw [HT.out, hE2.out]; simp, hag2, Bel.then HB.out HB2.out, Nat.le_trans hsz S2⟩, by simp [intOf]; omega⟩
       · have hE2 : Hid (max M (1 + q) = M) := lH (by omega)
         go_wp2_with (go_at_call 169; (with_reducible refine HC.out.mono ?_); rintro e w2 ⟨rfl, b2⟩; have HB2 := lH b2; have S2 := b2.size; clear b2)
         have hag2 : qQt (· = w.heap.size) w1 w2 := by
          intro b' hb'
          have hb'' : b' = w.heap.size := hb'
          rw [<- HAG.out b' hb']
          exact HB2.out.block b' (by omega)
         exact ⟨⟨t + 1, by omega, by go_num, by rw [HT.out, hE2.out], hag2, Bel.then HB.out HB2.out, Nat.le_trans hsz S2⟩, by simp [intOf]; omega⟩
     · go_wp2
       go_roundw
       case rel => exact ⟨j + 1, by omega, by go_num, by rw [HXF.out, List.take_of_length_le (show X.length <= t by omega)], HAG.out, HB.out, hsz⟩
       case measure => simp [intOf]; omega
  · obtain rfl : j = 2 := by omega
    go_wp2
    go_ret
    exact ⟨qQh (by simp), HB.out⟩
end Go.Proofs.YtklbmkaomojciaaGreat
