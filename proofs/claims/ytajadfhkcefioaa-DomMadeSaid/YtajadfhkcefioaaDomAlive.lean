/- Chapter 2: moved and back, made and removed (plain laws); the closed fact, walked. -/
import Derived.Test.YtajadfhkcefioaaDocPlain
import Derived.Test.YtajadfhkcefioaaDomLaws
/- Moved, and moved back; made, and removed: all is as it was. -/
namespace Go.Proofs.Ytajadfhkcefioaa
/-- right documents all of whose nodes are the same are the same -/
theorem Good.ext {d e : Dc} (g : Good d) (h : Good e) (H : ∀ n, 0 ≤ n → nd d n = nd e n) : d = e := by
  have key : ∀ {d e : Dc}, Good d → (∃ r, G0 NoFree 16 r e) → (∀ n, 0 ≤ n → nd d n = nd e n) → d.length ≤ e.length := by
    intro d e g h H
    obtain ⟨r, he⟩ := h
    rcases g.last with h1 | h1
    · have := he.pos; omega
    · have h2 := isM_nd.1 h1
      rw [H _ h2.1] at h2
      have := (isM_lt (isM_nd.2 h2)).1
      omega
  have hl : d.length = e.length := Nat.le_antisymm (key g h.tree H) (key h g.tree (fun n hn => (H n hn).symm))
  apply List.ext_getElem hl
  intro i h1 h2
  have := H i (by omega)
  rwa [nd_get h1, nd_get h2] at this
theorem deepest_rank {d : Dc} {R : Nat} {r : Int → Nat} (g : G0 NoFree R r d) : ∀ f n, isM d n false = true → r n + deepestF d f n ≤ R := by
  intro f
  induction f with
  | zero => intro n h; have := (g.rank n h).1; simp only [deepestF]; omega
  | succ f ih =>
    intro n h
    have h0 := (g.rank n h).1
    have : deepestF d (f + 1) n ≤ R - r n := by
      refine maxL_le (fun x hx => ?_)
      obtain ⟨k, hk, rfl⟩ := List.mem_map.1 hx
      obtain ⟨h1, h2, h3⟩ := (listOf_mem g h).1 hk
      have h4 := (g.rank k h1).2 h2 (fun h => h)
      have := ih k h1
      rw [h3] at h4
      omega
    omega
theorem without_self {l : List Int} {k : Int} (h : k ∉ l) : withoutM l k = l := by
  unfold withoutM
  rw [List.filter_eq_self]
  intro x hx
  have : x ≠ k := fun e => h (e ▸ hx)
  simp [this]
theorem without_append (a b : List Int) (k : Int) : withoutM (a ++ b) k = withoutM a k ++ withoutM b k := by
  unfold withoutM; rw [List.filter_append]
theorem without_ins {l : List Int} {a : Nat} {k : Int} (h : k ∉ l) : withoutM (insM l a k) k = l := by
  unfold insM
  rw [without_append, without_append, without_self (fun h2 => h (List.mem_of_mem_take h2)), without_self (fun h2 => h (List.mem_of_mem_drop h2))]
  have : withoutM [k] k = [] := by simp [withoutM]
  rw [this, List.append_nil, List.take_append_drop]
theorem cut_self {x : Nd} {k : Int} (h1 : k ∉ x.kids) (h2 : k ∉ x.shadow) : cutM x k = x := by
  unfold cutM
  rw [without_self h1, without_self h2]
theorem atF_not {x : Int} : ∀ (l : List Int) (i : Nat) (a : Int), x ∉ l → atF x l i a = a := by
  intro l
  induction l with
  | nil => intro i a _; rfl
  | cons y l ih =>
    intro i a h
    rw [atF, ih _ _ (fun h2 => h (by simp [h2])), if_neg (fun e => h (by simp [e]))]
theorem atF_at {x : Int} : ∀ (A B : List Int) (i : Nat) (a : Int), x ∉ A → x ∉ B → atF x (A ++ x :: B) i a = ((i + A.length : Nat) : Int) := by
  intro A
  induction A with
  | nil => intro B i a _ h; simp only [List.nil_append, atF]; rw [atF_not _ _ _ h]; simp
  | cons y A ih =>
    intro B i a h1 h2
    simp only [List.cons_append, atF]
    rw [ih _ _ _ (fun h => h1 (by simp [h])) h2]
    simp only [List.length_cons]
    congr 1; omega
/-- a document whose node n was moved into t, before the list's place a is told -/
def movedD (d : Dc) (n t : Int) : Dc := withM (takeM d n) n.toNat { nd d n with up := t, inS := false }
def movedN (d : Dc) (n t m : Int) : Nd := if m = n then { nd d n with up := t, inS := false } else if m = (nd d n).up then cutM (nd d (nd d n).up) n else nd d m
theorem moved_nd {d : Dc} {n t : Int} (g : ∃ r, G0 NoFree 16 r d) (hn : isM d n false = true) (h0 : n ≠ 0) (m : Int) (hm : 0 ≤ m) : nd (movedD d n t) m = movedN d n t m := by
  obtain ⟨r, g⟩ := g
  have hpi := g.upIs hn h0 (fun h => h)
  have hlt := isM_lt hn
  have hlen := take_length hpi
  unfold movedD movedN
  rw [nd_with (by omega)]
  by_cases e : m = n
  · rw [if_pos (by rw [e]), if_pos e]
  · rw [if_neg (fun h => e (toNat_inj hm (isM_nd.1 hn).1 h)), if_neg e, take_nd hpi m hm]
theorem put_nd {d : Dc} {k t b : Int} (ht : isM d t false = true) (m : Int) (hm : 0 ≤ m) : nd (putD d k t b false) m = if m = t then { nd d t with kids := insM (nd d t).kids (putAt (nd d t).kids b).toNat k } else nd d m := by
  have hlt := isM_lt ht
  unfold putD
  rw [nd_with (by omega)]
  by_cases e : m = t
  · rw [if_pos (by rw [e]), if_pos e]; rfl
  · rw [if_neg (fun h => e (toNat_inj hm (isM_nd.1 ht).1 h)), if_neg e]
theorem move_parts {d : Dc} {n t b : Int} (h : (applyM d ⟨3, n, t, b, [], []⟩).1 = 0) :
    isM d n false = true ∧ n ≠ 0 ∧ isM d t true = true ∧ withinM d t n = false ∧ b ≠ n ∧ (putM (movedD d n t) n t b false).1 = 0 ∧ applyM d ⟨3, n, t, b, [], []⟩ = (0, n, trimM (putM (movedD d n t) n t b false).2) := by
  unfold applyM at h ⊢
  rw [if_neg (by simp)] at h ⊢
  split at h
  · simp at h
  · rename_i c2
    rw [if_neg c2]
    split at h
    · rename_i c3
      rw [if_pos c3]
      have c4 := c3
      unfold changeM at c3 ⊢
      rw [if_pos rfl] at c3 ⊢
      unfold moveM at c3 ⊢
      split at c3
      · simp at c3
      · rename_i c5
        rw [if_neg c5]
        split at c3
        · simp at c3
        · rename_i c6
          rw [if_neg c6]
          split at c3
          · simp at c3
          · rename_i c7
            rw [if_neg c7]
            simp at c2 c5 c6
            exact ⟨c2, c5.1, c5.2, c6, c7, c3, rfl⟩
    · rename_i c3; exact absurd h c3
theorem move_goes {d : Dc} {n t b : Int} (hn : isM d n false = true) (h0 : n ≠ 0) (ht : isM d t true = true) (hw : withinM d t n = false) (hb : b ≠ n) (hp : (putM (movedD d n t) n t b false).1 = 0) : applyM d ⟨3, n, t, b, [], []⟩ = (0, n, trimM (putM (movedD d n t) n t b false).2) := by
  have hc : changeM d ⟨3, n, t, b, [], []⟩ = (0, n, (putM (movedD d n t) n t b false).2) := by
    unfold changeM
    rw [if_pos rfl]
    unfold moveM
    rw [if_neg (by simp [h0, ht]), if_neg (by simp [hw]), if_neg hb]
    show (_, _, _) = _
    have hp' : (putM (withM (takeM d n) n.toNat { nd d n with up := t, inS := false }) n t b false).1 = 0 := hp
    dsimp only
    rw [hp']
    rfl
  unfold applyM
  rw [if_neg (by simp), if_neg (by simp [hn]), hc]
  rfl
/-- what of a document is under a node that was moved: nothing that was not -/
theorem und_moved {d y : Dc} {n : Int} (hi : ∀ m, isM y m false = true → isM d m false = true) (hu : ∀ m, isM d m false = true → m ≠ n → (nd y m).up = (nd d m).up) {x : Int} (h : Und y n x) : Und d n x := by
  induction h with
  | here h => exact .here (hi _ h)
  | @step x h1 h2 _ ih =>
    by_cases e : x = n
    · subst e; exact .here (hi _ h1)
    · rw [hu x (hi _ h1) e] at ih
      exact .step (hi _ h1) h2 ih
theorem back_law {d : Dc} {n t b : Int} (g : Good d) (h : (applyM d ⟨3, n, t, b, [], []⟩).1 = 0) (hs : (nd d n).inS = false) :
    ∃ A B, (nd d (nd d n).up).kids = A ++ n :: B ∧ (A ++ n :: B).Nodup ∧ isM d (nd d n).up true = true ∧ isM d n false = true ∧ Good (applyM d ⟨3, n, t, b, [], []⟩).2.2 ∧
      applyM (applyM d ⟨3, n, t, b, [], []⟩).2.2 ⟨3, n, (nd d n).up, B.head?.getD (-1), [], []⟩ = (0, n, d) := by
  obtain ⟨hn, h0, ht, hw, hb, hp, he⟩ := move_parts h
  have gy := apply_good g h
  obtain ⟨ok, hl⟩ := move_ok g.tree hn h0 ht hw
  obtain ⟨q1, r', q2⟩ := put_good (before := b) ok hp
  obtain ⟨z1, -, -⟩ := q2.trim
  obtain ⟨r, g0⟩ := g.tree
  obtain ⟨hpe, hpl⟩ := g0.up n hn h0 (fun h => h)
  have hpi := isM_el hpe
  rw [he] at gy ⊢
  dsimp only at gy ⊢
  have hn0 := (isM_nd.1 hn).1
  have hp0 := (isM_nd.1 hpi).1
  have ht0 := (isM_nd.1 (isM_el ht)).1
  have hrn := (g0.rank n hn).2 h0 (fun h => h)
  have hpn : (nd d n).up ≠ n := by intro e; rw [e] at hrn; omega
  have hund : ¬ Und d n t := by
    intro hu
    have := (within_iff g0 (isM_el ht)).2 hu
    rw [hw] at this; simp at this
  have htn : t ≠ n := by rintro rfl; exact hund (.here hn)
  have hnS : n ∉ (nd d (nd d n).up).shadow := by
    intro hk
    have := (g0.kid _ true n hpi hk).2.2.1
    rw [hs] at this; simp at this
  have hnK : n ∈ (nd d (nd d n).up).kids := by
    have := hpl
    rw [hs] at this
    exact this
  have honce := (g0.ok (nd d n).up).once false
  have hfew := (g0.ok (nd d n).up).few false
  simp only [listM, Bool.false_eq_true, if_false] at honce hfew
  obtain ⟨A, B, hAB⟩ := List.append_of_mem hnK
  have hyn : ∀ m, 0 ≤ m → nd (trimM (putM (movedD d n t) n t b false).2) m = if m = t then { movedN d n t t with kids := insM (movedN d n t t).kids (putAt (movedN d n t t).kids b).toNat n } else movedN d n t m := by
    intro m hm
    have e1 : (putM (movedD d n t) n t b false).2 = putD (movedD d n t) n t b false := q1
    have e2 : nd (trimM (putM (movedD d n t) n t b false).2) m = nd (putM (movedD d n t) n t b false).2 m := z1 m
    have e3 : isM (movedD d n t) t false = true := isM_el ok.to
    rw [e2, e1, put_nd e3 m hm, moved_nd g.tree hn h0 t ht0, moved_nd g.tree hn h0 m hm]
  clear q1 q2 z1 hp he ok hl
  generalize trimM (putM (movedD d n t) n t b false).2 = y at *
  have hE : ∀ m, m ≠ n → m ≠ (nd d n).up → movedN d n t m = nd d m := fun m h1 h2 => by unfold movedN; rw [if_neg h1, if_neg h2]
  have hEp : movedN d n t (nd d n).up = cutM (nd d (nd d n).up) n := by unfold movedN; rw [if_neg hpn, if_pos rfl]
  have hEn : movedN d n t n = { nd d n with up := t, inS := false } := by unfold movedN; rw [if_pos rfl]
  have hcut : n ∉ (cutM (nd d (nd d n).up) n).kids := fun hk => (mem_without.1 hk).2 rfl
  have hcut2 : n ∉ (cutM (nd d (nd d n).up) n).shadow := fun hk => (mem_without.1 hk).2 rfl
  have hyN : nd y n = { nd d n with up := t, inS := false } := by rw [hyn n hn0, if_neg (Ne.symm htn), hEn]
  have hyU : (nd y n).up = t := by rw [hyN]
  have hyo : ∀ m, 0 ≤ m → m ≠ n → m ≠ t → m ≠ (nd d n).up → nd y m = nd d m := fun m h1 h2 h3 h4 => by rw [hyn m h1, if_neg h3, hE m h2 h4]
  have hlive : ∀ m, 0 ≤ m → (nd y m).live = (nd d m).live ∧ (nd y m).tag = (nd d m).tag ∧ (m ≠ n → (nd y m).up = (nd d m).up) := by
    intro m hm
    have hEm : (movedN d n t m).live = (nd d m).live ∧ (movedN d n t m).tag = (nd d m).tag ∧ (m ≠ n → (movedN d n t m).up = (nd d m).up) := by
      unfold movedN
      split
      · rename_i e; subst e; exact ⟨rfl, rfl, fun h => absurd rfl h⟩
      · split
        · rename_i e; subst e; exact ⟨rfl, rfl, fun _ => rfl⟩
        · exact ⟨rfl, rfl, fun _ => rfl⟩
    rw [hyn m hm]
    split
    · rename_i e; subst e; exact hEm
    · exact hEm
  have hyi : ∀ m, isM y m false = true ↔ isM d m false = true := fun m => isM_same (fun m hm => (hlive m hm).1) m
  have hynI : isM y n false = true := (hyi n).2 hn
  have hypI : isM y (nd d n).up true = true := isM_tag.2 ⟨(hyi _).2 hpi, by rw [(hlive _ hp0).2.1]; exact (isM_tag.1 hpe).2⟩
  obtain ⟨ry, gy0⟩ := gy.tree
  have hwy : withinM y (nd d n).up n = false := by
    cases hx : withinM y (nd d n).up n with
    | false => rfl
    | true =>
      have h1 := (within_iff gy0 (isM_el hypI)).1 hx
      have h2 := und_moved (d := d) (fun m hm => (hyi m).1 hm) (fun m hm hne => (hlive m (isM_nd.1 hm).1).2.2 hne) h1
      have := h2.le g0
      omega
  -- what it comes to
  have hE2p : movedN y n (nd d n).up (nd d n).up = cutM (nd d (nd d n).up) n := by
    unfold movedN
    rw [if_neg hpn, hyU]
    by_cases e : (nd d n).up = t
    · have hEt : movedN d n t t = cutM (nd d (nd d n).up) n := by unfold movedN; rw [if_neg htn, if_pos e.symm]
      rw [if_pos e, hyn t ht0, if_pos rfl, hEt]
      generalize cutM (nd d (nd d n).up) n = C at *
      unfold cutM
      dsimp only
      rw [without_ins hcut, without_self hcut2]
    · rw [if_neg e, hyn _ hp0, if_neg e, hEp]
  have hE2n : movedN y n (nd d n).up n = nd d n := by
    unfold movedN
    rw [if_pos rfl, hyN]
    dsimp only
    rw [← hs]
  have hE2 : ∀ m, 0 ≤ m → m ≠ (nd d n).up → movedN y n (nd d n).up m = nd d m := by
    intro m hm hmp
    by_cases hmn : m = n
    · subst hmn; exact hE2n
    · unfold movedN
      rw [if_neg hmn, hyU]
      by_cases e : m = t
      · subst e
        rw [if_pos rfl, hyn m hm, if_pos rfl, hE m hmn hmp]
        have hti := isM_el ht
        have k1 : n ∉ (nd d m).kids := fun hk => hmp (g0.kid m false n hti hk).2.1.symm
        have k2 : n ∉ (nd d m).shadow := fun hk => hmp (g0.kid m true n hti hk).2.1.symm
        unfold cutM
        dsimp only
        rw [without_ins k1, without_self k2]
      · rw [if_neg e]
        exact hyo m hm hmn e hmp
  rw [hAB] at honce hfew
  have hA : n ∉ A := fun hk => (List.nodup_append.1 honce).2.2 n hk n (by simp) rfl
  have hB : n ∉ B := (List.nodup_cons.1 (List.nodup_append.1 honce).2.1).1
  have hck : (cutM (nd d (nd d n).up) n).kids = A ++ B := by
    unfold cutM
    dsimp only
    rw [hAB, without_append, without_self hA]
    congr 1
    have : withoutM (n :: B) n = withoutM B n := by simp [withoutM]
    rw [this, without_self hB]
  have hat : putAt (A ++ B) (B.head?.getD (-1)) = A.length := by
    cases hBB : B with
    | nil => simp [putAt]
    | cons b0 B' =>
      subst hBB
      have hb0 : b0 ∈ (nd d (nd d n).up).kids := by rw [hAB]; simp
      have := (isM_nd.1 (g0.kid _ false b0 hpi hb0).1).1
      have n1 : b0 ∉ A := fun hk => (List.nodup_append.1 honce).2.2 b0 hk b0 (by simp) rfl
      have n2 : b0 ∉ B' := (List.nodup_cons.1 (List.nodup_cons.1 (List.nodup_append.1 honce).2.1).2).1
      have hpa : putAt (A ++ b0 :: B') b0 = atF b0 (A ++ b0 :: B') 0 (-1) := if_pos this
      simp only [List.head?_cons, Option.getD_some]
      rw [hpa, atF_at A B' 0 (-1) n1 n2]
      simp
  have hnb : B.head?.getD (-1) ≠ n := by
    cases hBB : B with
    | nil => simp; omega
    | cons b0 B' => subst hBB; simp only [List.head?_cons, Option.getD_some]; rintro rfl; exact hB (by simp)
  obtain ⟨ok2, hl2⟩ := move_ok gy.tree hynI h0 hypI hwy
  have hkids : (nd (movedD y n (nd d n).up) (nd d n).up).kids = A ++ B := by rw [moved_nd gy.tree hynI h0 _ hp0, hE2p, hck]
  have hzn : ∀ m, 0 ≤ m → nd (putD (movedD y n (nd d n).up) n (nd d n).up (B.head?.getD (-1)) false) m = nd d m := by
    intro m hm
    have e3 : isM (movedD y n (nd d n).up) (nd d n).up false = true := isM_el ok2.to
    rw [put_nd e3 m hm]
    split
    · rename_i e
      subst e
      rw [hkids, hat, moved_nd gy.tree hynI h0 _ hm, hE2p]
      have : insM (A ++ B) (A.length : Int).toNat n = (nd d (nd d n).up).kids := by
        rw [hAB]; unfold insM; simp
      rw [this]
      unfold cutM
      dsimp only
      rw [without_self hnS]
    · rename_i e
      rw [moved_nd gy.tree hynI h0 m hm, hE2 m hm e]
  have gz : G0 NoFree 16 r (putD (movedD y n (nd d n).up) n (nd d n).up (B.head?.getD (-1)) false) := by
    refine g0.of_nd (fun m => ?_)
    by_cases hm : 0 ≤ m
    · exact hzn m hm
    · rw [nd_neg (n := m) (by omega), hzn 0 (by omega), nd_neg (d := d) (n := m) (by omega)]
  have hzi : isM (putD (movedD y n (nd d n).up) n (nd d n).up (B.head?.getD (-1)) false) n false = true := (isM_same (fun m hm => by rw [hzn m hm]) n).2 hn
  have hput : putM (movedD y n (nd d n).up) n (nd d n).up (B.head?.getD (-1)) false = (0, putD (movedD y n (nd d n).up) n (nd d n).up (B.head?.getD (-1)) false) := by
    have h1 := pathM_length gz hzi
    have h2 := deepest_rank gz 100 n hzi
    unfold putM
    have hlm : listM (nd (movedD y n (nd d n).up) (nd d n).up) false = A ++ B := hkids
    rw [hlm, if_neg (by rw [hat]; omega), if_neg (by simp at hfew ⊢; omega), if_neg (by unfold deepestM; omega)]
  refine ⟨A, B, hAB, honce, hpe, hn, gy, ?_⟩
  rw [move_goes hynI h0 hypI hwy hnb (by rw [hput]), hput]
  dsimp only
  have hlen : (putD (movedD y n (nd d n).up) n (nd d n).up (B.head?.getD (-1)) false).length ≤ 60 := by
    have e4 : isM (movedD y n (nd d n).up) (nd d n).up true = true := ok2.to
    rw [putD_length e4]
    have h3 := gy.len
    have : (movedD y n (nd d n).up).length = y.length := hl2
    omega
  have := (good_trim ⟨r, gz⟩ hlen).ext g (fun m hm => by rw [gz.trim.1 m, hzn m hm])
  rw [this]
theorem path_same {d y : Dc} {r : Int → Nat} (g : G0 NoFree 16 r d) (hi : ∀ m, isM d m false = true → isM y m false = true ∧ (nd y m).up = (nd d m).up) : ∀ f n, isM d n false = true → pathF y f n = pathF d f n := by
  intro f
  induction f with
  | zero => intro n _; rfl
  | succ f ih =>
    intro n h
    rw [pathF, pathF, if_pos h, if_pos (hi n h).1, (hi n h).2]
    congr 1
    by_cases h0 : n = 0
    · subst h0
      have e1 : ∀ (x : Dc) (f : Nat), pathF x f (-1) = [] := by
        intro x f
        cases f with
        | zero => rfl
        | succ f => rw [pathF, if_neg (by simp [isM])]
      rw [g.root.2.2.1, e1, e1]
    · exact ih _ (g.upIs h h0 (fun h => h))
theorem made_law {d : Dc} {n b : Int} {text : Bool} (g : Good d) (x : Chg) (hx : x = if text then ⟨2, n, 0, b, [], [98]⟩ else ⟨1, n, 0, b, [98], []⟩) (h : (applyM d x).1 = 0) :
    ∃ k : Nat, (applyM d x).2.1 = (k : Int) ∧ isM d n false = true ∧ isM d k false = false ∧ Good (applyM d x).2.2 ∧ isM (applyM d x).2.2 k false = true ∧ withinM (applyM d x).2.2 k n = true ∧ (pathM (applyM d x).2.2 k).length = (pathM d n).length + 1 ∧ applyM (applyM d x).2.2 ⟨4, k, 0, 0, [], []⟩ = (0, (k : Int), d) := by
  have gy := apply_good g h
  have hxk : x.node = n ∧ x.before = b ∧ isShK x.kind = false ∧ x.kind ≠ 3 ∧ x.kind ≠ 4 ∧ x.kind ≠ 7 ∧ x.kind ≠ 5 ∧ x.kind ≠ 6 ∧ x.kind ≠ 8 ∧ 1 ≤ x.kind ∧ x.kind ≤ 10 ∧ (isTextK x.kind = true → x.value.length ≤ 60) ∧ (isTextK x.kind = false → name x.name = true) := by
    subst hx; cases text <;> simp [isShK, isTextK] <;> decide
  obtain ⟨x1, x2, x3, x4, x5, x6, x7, x8, x9, x10, x11, x12, x13⟩ := hxk
  obtain ⟨m1, m2, m3⟩ := newNd_ok (x := x) (t := n) (sh := false) x12 x13
  have hc : applyM d x = (0, (freeM d : Int), trimM (putM (withM d (freeM d) { newNd x with live := true, up := n, inS := false }) (freeM d) n b false).2) ∧ isM d n true = true ∧ (putM (withM d (freeM d) { newNd x with live := true, up := n, inS := false }) (freeM d) n b false).1 = 0 := by
    clear gy
    unfold applyM at h ⊢
    rw [if_neg (by simp; omega)] at h ⊢
    split at h
    · simp at h
    · rename_i c2
      rw [if_neg c2]
      split at h
      · rename_i c3
        rw [if_pos c3]
        unfold changeM at c3 ⊢
        rw [if_neg x4, if_neg x5, if_neg x6] at c3 ⊢
        split at c3
        · simp at c3
        · rename_i ct
          rw [if_neg ct]
          rw [if_neg x7, if_neg x8, if_neg x9]
          unfold insideM at c3 ⊢
          split at c3
          · simp at c3
          · rename_i c4
            rw [if_neg c4]
            split at c3
            · simp at c3
            · rename_i c5
              rw [if_neg c5]
              split at c3
              · simp at c3
              · rename_i c6
                rw [if_neg c6]
                unfold makeM at c3 ⊢
                split at c3
                · simp at c3
                · rename_i c7
                  rw [if_neg c7]
                  rw [x3, x1, x2] at c3 ⊢
                  simp at c2 ct
                  rw [x1] at c2 ct
                  exact ⟨rfl, isM_tag.2 ⟨c2, ct⟩, c3⟩
      · rename_i c3; exact absurd h c3
  obtain ⟨he, hel, hp⟩ := hc
  have hn := isM_el hel
  obtain ⟨ok, hli⟩ := make_ok (sh := false) g.tree hel (fun h => by simp at h) m1 m2 m3
  obtain ⟨q1, r', q2⟩ := put_good (before := b) ok hp
  obtain ⟨z1, -, -⟩ := q2.trim
  obtain ⟨r, g0⟩ := g.tree
  obtain ⟨f1, f2⟩ := free_is g0
  rw [he] at gy ⊢
  dsimp only at gy ⊢
  have hn0 := (isM_nd.1 hn).1
  have hkd : isM d (freeM d : Int) false = false := by
    cases hx : isM d (freeM d : Int) false with
    | false => rfl
    | true => have := (isM_nd.1 hx).2; rw [f2] at this; simp at this
  have hnk : n ≠ (freeM d : Int) := by rintro e; rw [← e, hn] at hkd; simp at hkd
  have hDn : ∀ m : Int, 0 ≤ m → nd (withM d (freeM d) { newNd x with live := true, up := n, inS := false }) m = if m = (freeM d : Int) then { newNd x with live := true, up := n, inS := false } else nd d m := by
    intro m hm
    rw [nd_with f1]
    by_cases e : m = (freeM d : Int)
    · rw [if_pos e, if_pos (by omega)]
    · rw [if_neg e, if_neg (by omega)]
  have hyn : ∀ m, 0 ≤ m → nd (trimM (putM (withM d (freeM d) { newNd x with live := true, up := n, inS := false }) (freeM d) n b false).2) m = if m = n then { nd d n with kids := insM (nd d n).kids (putAt (nd d n).kids b).toNat (freeM d) } else if m = (freeM d : Int) then { newNd x with live := true, up := n, inS := false } else nd d m := by
    intro m hm
    rw [z1 m, q1, put_nd (isM_el ok.to) m hm, hDn n hn0, if_neg hnk, hDn m hm]
  clear q1 q2 z1 he hli
  have hk0 : (freeM d : Int) ≠ 0 := ok.ne
  clear hp ok hDn
  generalize trimM (putM (withM d (freeM d) { newNd x with live := true, up := n, inS := false }) (freeM d) n b false).2 = y at *
  generalize freeM d = k at *
  have hyk : nd y (k : Int) = { newNd x with live := true, up := n, inS := false } := by rw [hyn _ (by omega), if_neg (Ne.symm hnk), if_pos rfl]
  have hyN : nd y n = { nd d n with kids := insM (nd d n).kids (putAt (nd d n).kids b).toNat k } := by rw [hyn n hn0, if_pos rfl]
  have hyo : ∀ m : Int, isM d m false = true → isM y m false = true ∧ (nd y m).up = (nd d m).up := by
    intro m hm
    have h1 := isM_nd.1 hm
    have hmk : m ≠ (k : Int) := by rintro e; rw [← e, hm] at hkd; simp at hkd
    rw [isM_nd, hyn m h1.1, if_neg hmk]
    split
    · rename_i e; subst e; exact ⟨⟨h1.1, h1.2⟩, rfl⟩
    · exact ⟨h1, rfl⟩
  have hki : isM y (k : Int) false = true := isM_nd.2 ⟨by omega, by rw [hyk]⟩
  have hni : isM y n false = true := (hyo n hn).1
  obtain ⟨ry, gy0⟩ := gy.tree
  have hyU : (nd y (k : Int)).up = n := by rw [hyk]
  have hrk := (gy0.rank _ hki).2 hk0 (fun h => h)
  rw [hyU] at hrk
  have hund : Und y n (k : Int) := .step hki hk0 (by rw [hyU]; exact .here hni)
  refine ⟨k, rfl, hn, hkd, gy, hki, (within_iff gy0 hki).2 hund, ?_, ?_⟩
  · rw [pathM_length gy0 hki, pathM_length g0 hn, hrk]
    have e1 := path_len gy0 (ry n + r n + 1) n hni (by omega)
    have e2 := path_len g0 (ry n + r n + 1) n hn (by omega)
    rw [path_same g0 hyo _ n hn, e2] at e1
    omega
  · have hall : allM y (k : Int) = [(k : Int)] := by
      show allF y (99 + 1) (k : Int) = _
      rw [allF, if_pos hki, hyk]
      dsimp only
      rw [m2, m3]
      rfl
    obtain ⟨⟨rz, gz⟩, hzl⟩ := remove_good gy.tree hki hk0
    have hc : changeM y ⟨4, k, 0, 0, [], []⟩ = (0, (k : Int), blankAll (takeM y k) (allM y k)) := by
      unfold changeM
      rw [if_neg (by simp), if_pos rfl]
      unfold removeM
      rw [if_neg hk0]
    have ha : applyM y ⟨4, k, 0, 0, [], []⟩ = (0, (k : Int), trimM (blankAll (takeM y k) (allM y k))) := by
      unfold applyM
      rw [if_neg (by simp), if_neg (by simp [hki]), hc]
      rfl
    rw [ha]
    have hpi : isM y (nd y (k : Int)).up false = true := by rw [hyU]; exact hni
    have hlt := isM_lt hki
    have hnd : ∀ m, 0 ≤ m → nd (blankAll (takeM y k) (allM y k)) m = nd d m := by
      intro m hm
      obtain ⟨-, b2⟩ := blankAll_nd (allM y k) (takeM y k) (fun z hz => by rw [hall] at hz; simp at hz; subst hz; rw [take_length hpi]; exact ⟨by omega, hlt.1⟩)
      rw [b2 m hm, hall]
      by_cases e : m = (k : Int)
      · rw [if_pos (by simp [e]), e, f2]
      · rw [if_neg (by simp [e]), take_nd hpi m hm, hyU]
        split
        · rename_i e2
          subst e2
          rw [hyN]
          have k1 : (k : Int) ∉ (nd d m).kids := fun hk => by have := (g0.kid m false _ hn hk).1; rw [hkd] at this; simp at this
          have k2 : (k : Int) ∉ (nd d m).shadow := fun hk => by have := (g0.kid m true _ hn hk).1; rw [hkd] at this; simp at this
          unfold cutM
          dsimp only
          rw [without_ins k1, without_self k2]
        · rename_i e2
          rw [hyn m hm, if_neg e2, if_neg e]
    have hlen : (blankAll (takeM y k) (allM y k)).length ≤ 60 := by rw [hzl]; exact gy.len
    have := (good_trim ⟨rz, gz⟩ hlen).ext g (fun m hm => by rw [gz.trim.1 m, hnd m hm])
    rw [this]
end Go.Proofs.Ytajadfhkcefioaa
/- The laws of chapter 2, walked: the closed fact. -/
namespace Go.Proofs.Ytajadfhkcefioaa
open Go.RowKit
def aliveX1 : Chg := { kind := 1, name := [112], before := -1 }
def aliveX2 : Chg := { kind := 5, node := 1, name := [105, 100], value := [120] }
def aliveD1 : Dc := (applyM rootD aliveX1).2.2
def aliveD2 : Dc := (applyM aliveD1 aliveX2).2.2
theorem alive_a1 : applyM rootD aliveX1 = (0, 1, aliveD1) := by
  have h1 : (applyM rootD aliveX1).1 = 0 := by decide +kernel
  have h2 : (applyM rootD aliveX1).2.1 = 1 := by decide +kernel
  exact Prod.ext h1 (Prod.ext h2 rfl)
theorem alive_a2 : applyM aliveD1 aliveX2 = (0, 1, aliveD2) := by
  have h1 : (applyM aliveD1 aliveX2).1 = 0 := by decide +kernel
  have h2 : (applyM aliveD1 aliveX2).2.1 = 1 := by decide +kernel
  exact Prod.ext h1 (Prod.ext h2 rfl)
theorem alive_g1 : Good aliveD1 := apply_good root_good (by rw [alive_a1])
theorem alive_g2 : Good aliveD2 := apply_good alive_g1 (by rw [alive_a2])
theorem alive_len : aliveD2.length = 2 := by decide +kernel
theorem alive_attr : attrM aliveD2 1 [105, 100] = some [120] := by decide +kernel
theorem alive_find : findD aliveD2 0 [120] = 1 := by decide +kernel
theorem alive_within : withinM aliveD2 1 0 = true := by decide +kernel
theorem alive_path : (pathM aliveD2 1).length = 2 := by decide +kernel
theorem alive_all : (allF aliveD2 100 0).length = 2 := by decide +kernel
theorem alive_is : isM aliveD2 1 true = true := by decide +kernel
theorem alive_scope : scopeM aliveD2 1 = 0 := by decide +kernel
theorem domDeep_good (m : Nat) (v : Value) (d : Dc) (n : Int) (w : World) (hv : DocAt m w v d) (g : Good d) (hn : isM d n false = true) :
    Calls Try.prog 104 #[v, .int .i64 n] w (Rv (.int .i64 (((pathM d n).length : Int) - 1)) w) := by
  obtain ⟨r, gr⟩ := g.tree
  have := domDeep_calls m v d n w 16 r hv gr hn (by have := g.len; omega)
  rw [pathM_length gr hn]
  have e : ((r n + 1 : Nat) : Int) - 1 = (r n : Int) := by omega
  rw [e]
  exact this
set_option maxRecDepth 100000 in
set_option maxHeartbeats 2000000 in
theorem domAlive_calls (w : World) : Calls Try.prog 107 #[] w (Rb (.bool true) w) := by
  have cA1 : Hid (∀ W u, DocAt W.heap.size W u rootD → Calls Try.prog 106 #[u, .agg #[.int .i64 1, .int .i64 0, .int .i64 0, .int .i64 (-1), .string ⟨#[112]⟩, .string ⟨#[]⟩]] W (Answers W (0, 1, aliveD1))) := Lib.hid (fun W u h => by
    have := domApply_calls _ u rootD aliveX1 W h (Nat.le_refl _) root_good (by decide) (by decide)
    rw [alive_a1] at this
    exact this)
  have cA2 : Hid (∀ W u, DocAt W.heap.size W u aliveD1 → Calls Try.prog 106 #[u, .agg #[.int .i64 5, .int .i64 1, .int .i64 0, .int .i64 0, .string ⟨#[105, 100]⟩, .string ⟨#[120]⟩]] W (Answers W (0, 1, aliveD2))) := Lib.hid (fun W u h => by
    have := domApply_calls _ u aliveD1 aliveX2 W h (Nat.le_refl _) alive_g1 (by decide) (by decide)
    rw [alive_a2] at this
    exact this)
  have cT : Hid (∀ W u, DocAt W.heap.size W u aliveD2 → Calls Try.prog 103 #[u, .int .i64 1, .string ⟨#[105, 100]⟩] W (Rb (.tuple #[.string ⟨#[120]⟩, .bool true]) W)) := Lib.hid (fun W u h => by
    have := domAttr_calls _ u aliveD2 1 [105, 100] W h (Nat.le_refl _)
    rw [alive_attr] at this
    exact this)
  have cF : Hid (∀ W u, DocAt W.heap.size W u aliveD2 → Calls Try.prog 99 #[u, .int .i64 0, .string ⟨#[120]⟩] W (Rb (.int .i64 1) W)) := Lib.hid (fun W u h => by
    have := domFind_calls _ u aliveD2 0 [120] W h (Nat.le_refl _) alive_g2
    rw [alive_find] at this
    exact this)
  have cW : Hid (∀ W u, DocAt W.heap.size W u aliveD2 → Calls Try.prog 97 #[u, .int .i64 1, .int .i64 0] W (Rv (.bool true) W)) := Lib.hid (fun W u h => by
    have := domWithin_calls _ u aliveD2 1 0 W h (by rw [alive_len]; omega)
    rw [alive_within] at this
    exact this)
  have cD : Hid (∀ W u, DocAt W.heap.size W u aliveD2 → Calls Try.prog 104 #[u, .int .i64 1] W (Rv (.int .i64 1) W)) := Lib.hid (fun W u h => by
    have := domDeep_good _ u aliveD2 1 W h alive_g2 (isM_el alive_is)
    rw [alive_path] at this
    exact this)
  have cL : Hid (∀ W u, DocAt W.heap.size W u aliveD2 → Calls Try.prog 102 #[u, .int .i64 0] W (Rn W fun w' y => OwnAt 1 rdInt W.heap.size 3 w' y (allF aliveD2 100 0))) := Lib.hid (fun W u h => domAll_calls 100 _ u aliveD2 0 W h (Nat.le_refl _) (good_all alive_g2 0).1 (good_all alive_g2 0).2)
  have cI : Hid (∀ W u, DocAt W.heap.size W u aliveD2 → Calls Try.prog 96 #[u, .int .i64 1, .bool true] W (Rv (.bool true) W)) := Lib.hid (fun W u h => by
    have := domIs_calls _ u aliveD2 1 true W h
    rw [alive_is] at this
    exact this)
  have cS : Hid (∀ W u, DocAt W.heap.size W u aliveD2 → Calls Try.prog 100 #[u, .int .i64 1] W (Rv (.int .i64 0) W)) := Lib.hid (fun W u h => by
    have := domScope_calls _ u aliveD2 1 W h (by rw [alive_len]; omega)
    rw [alive_scope] at this
    exact this)
  have hlen := alive_len
  have hall := alive_all
  generalize aliveD2 = d2 at *
  generalize aliveD1 = d1 at *
  generalize allF d2 100 0 = L at *
  go_enter Try.func107, Try.ntmps107
  go_wp2_with (first
    | (go_at_call 94; (with_reducible refine (domNew_calls _).mono ?_); rintro e w1 ⟨b1, u1, rfl, o1⟩; obtain ⟨na, nc, rfl, _, _⟩ := RowAt.form o1; have HD := Lib.hid o1; have HB := Lib.hid b1; clear b1 o1)
    | (go_at_call 106; (with_reducible refine (cA1.out _ _ HD.out).mono ?_); rintro e w2 ⟨b1, u1, rfl, y1, rfl, o1⟩; obtain ⟨oa, oc, rfl, _, _⟩ := RowAt.form o1; have HD := Lib.hid o1; have HB := Lib.hid (Bel.then HB.out b1); clear b1 o1)
    | (go_at_call 106; (with_reducible refine (cA2.out _ _ HD.out).mono ?_); rintro e w3 ⟨b1, u1, rfl, y1, rfl, o1⟩; obtain ⟨ya, yc, rfl, _, _⟩ := RowAt.form o1; rw [hlen]; rw [hlen] at o1; have HD := Lib.hid o1; have HB := Lib.hid (Bel.then HB.out b1); clear b1 o1)
    | (go_at_call 103; (with_reducible refine (cT.out _ _ HD.out).mono ?_); rintro e w4 ⟨rfl, b1⟩; have HD := Lib.hid (HD.out.up b1 (Nat.le_refl _)); have HB := Lib.hid (Bel.then HB.out b1); clear b1)
    | (go_at_call 99; (with_reducible refine (cF.out _ _ HD.out).mono ?_); rintro e w5 ⟨rfl, b1⟩; have HD := Lib.hid (HD.out.up b1 (Nat.le_refl _)); have HB := Lib.hid (Bel.then HB.out b1); clear b1)
    | (go_at_call 97; (with_reducible refine (cW.out _ _ HD.out).mono ?_); rintro e w6 ⟨rfl, rfl⟩)
    | (go_at_call 104; (with_reducible refine (cD.out _ _ HD.out).mono ?_); rintro e w7 ⟨rfl, rfl⟩)
    | (go_at_call 102; (with_reducible refine (cL.out _ _ HD.out).mono ?_); rintro e w8 ⟨b1, u1, rfl, o1⟩; obtain ⟨la, lc, rfl, _, _⟩ := RowAt.form o1.read; rw [hall]; have HD := Lib.hid (HD.out.up b1 (Nat.le_refl _)); have HB := Lib.hid (Bel.then HB.out b1); clear b1 o1)
    | (go_at_call 96; (with_reducible refine (cI.out _ _ HD.out).mono ?_); rintro e w9 ⟨rfl, rfl⟩)
    | (go_at_call 100; (with_reducible refine (cS.out _ _ HD.out).mono ?_); rintro e w10 ⟨rfl, rfl⟩))
  go_ret
  exact ⟨rfl, HB.out⟩
end Go.Proofs.Ytajadfhkcefioaa
