/- Laws of chapters 3, 5 and 7: plain ones, and walks of law packages. -/
import Derived.Test.YtklbmkaomojciaaGreatFlatShown
import Derived.Test.YtklbmkaomojciaaGreatRefApply
import Derived.Test.YtklbmkaomojciaaGreatMaps
import Derived.Test.YtklbmkaomojciaaGreatPlains
import Derived.Test.YtklbmkaomojciaaGreatRefRole
/- The laws of chapter 3, walked. -/
namespace Go.Proofs.YtklbmkaomojciaaGreat
open Go.RowKit
theorem same_true {m : Nat} {u v : Value} {a : List Int} {w : World} (hu : IntsB m w u a) (hv : IntsB m w v a) (hm : m ≤ w.heap.size) : Calls Tryz.prog 33 #[u, v] w (Rb (.bool true) w) := by
  have := refSameInts_calls m u v a a w hu hv hm
  simpa using this
theorem IntsB.on {w w' : World} {v : Value} {l : List Int} (h : IntsB w.heap.size w v l) (hb : Bel w w') : IntsB w'.heap.size w' v l := (RowAt.later h still_int hb (Nat.le_refl _)).mono (fun _ h => Nat.lt_of_lt_of_le h hb.size) (fun _ _ _ h => h)
end Go.Proofs.YtklbmkaomojciaaGreat
/- The laws of chapter 3 without the document's answer, walked. -/
namespace Go.Proofs.YtklbmkaomojciaaGreat
open Go.RowKit
def chgCells (x : Chg) : List Value := [.int .i64 x.kind, .int .i64 x.node, .int .i64 x.dest, .int .i64 x.before, .string ⟨x.name.toArray⟩, .string ⟨x.value.toArray⟩]
/-- a slice literal of changes -/
theorem chgs_lit (w : World) (L : List Chg) (e : TypeId) (g n : Nat) (hg : g = w.heap.size) (hn : L.length = n) (hs : L.length ≤ 1000) (C : Array Value) (hC : C = (L.flatMap chgCells).toArray) : ChgsAt (g + 1) (w.alloc (.cells C e)) (.slice (some ⟨g, 0, none⟩) n n) L := by
  subst hn hC
  have hb := Blk.new w g hg (L.flatMap chgCells) e
  refine .inr ⟨g, 0, L.length, rfl, Nat.le_refl _, by omega, fun i hi => ⟨Nat.lt_succ_self _, chgCells L[i], rfl, fun j u hu => ?_, rfl⟩⟩
  rw [hb.cell, Nat.zero_add]
  have hx : ∀ x ∈ L.map chgCells, x.length = 6 := by
    intro x hx
    obtain ⟨c, _, rfl⟩ := List.mem_map.1 hx
    rfl
  have := flatten_get hx i (by simpa using hi) j u (by simpa using hu)
  rwa [List.flatMap_def]
theorem first_cell {C : List Value} {x : Int} {l : List Int} (h : C.take (x :: l).length = (x :: l).map (Value.int .i64)) : C[0]? = some (.int .i64 x) := by
  cases C with
  | nil => simp at h
  | cons c C => simp at h; simp [h.1]
def hostL : List Chg := [{ kind := 1, name := [120], before := -1 }, { kind := 8, node := 1 }, { kind := 9, node := 1, name := slotT }, { kind := 1, node := 1, name := [98], before := -1 }]
theorem host_kids : kidsR (buildM hostL) 2 = [3] := by decide +kernel
theorem host_slot : slotR (buildM hostL) 3 = 2 := by decide +kernel
theorem host_given : givenR (buildM hostL) 2 = [3] := by decide +kernel
theorem host_up : upR (buildM hostL) 3 = 2 := by decide +kernel
theorem host_shown : (shownR (buildM hostL)).length = 4 := by decide +kernel
def hadM (l : List Int) : Int → Option Value := fun x => if x ∈ l then some (.bool true) else none
theorem had_lookup {w : World} {r : Nat} {l : List Int} (h : MapIs kI w r (hadM l)) (n : Int) : (Instr.lookup 59 (.map (some r)) (.int .i64 n) false).run Tryz.prog w = .ok (.bool (decide (n ∈ l))) w := by
  obtain ⟨i, h1, h2, _, _⟩ := info_parts (by kernel_rfl : (Tryz.prog.info? 4).map (fun i => (i.zero, i.size, i.bytes)) = some (some (.bool false), 1, 1))
  have := run_lookup_is Tryz.underlying59 (keyInt Tryz.underlying3) h1 h2 h n false
  by_cases hn : n ∈ l <;> simpa [hadM, hn, kI] using this
theorem had_update {w : World} {r : Nat} {l : List Int} (h : MapIs kI w r (hadM l)) (n : Int) : ∃ w', (Instr.mapUpdate 59 (.map (some r)) (.int .i64 n) (.bool true)).run Tryz.prog w = .ok () w' ∧ MapIs kI w' r (hadM (l ++ [n])) ∧ w.grownBy w' (some r) ∧ w'.heap.size = w.heap.size := by
  obtain ⟨w', h1, h2, h3, h4⟩ := run_mapUpdate_is Tryz.underlying59 (keyInt Tryz.underlying3) h n (.bool true)
  refine ⟨w', h1, ?_, h3, h4⟩
  have e : upd (hadM l) n (.bool true) = hadM (l ++ [n]) := by
    funext x
    unfold upd hadM
    by_cases hx : x = n
    · simp [hx]
    · simp [hx]
  rwa [e] at h2
theorem shown_up0 {d : Dc} (g : Good d) : upR d 0 = -1 := up_miss (fun k _ => by
  obtain ⟨r, gr⟩ := g.tree
  rw [List.contains_eq_mem, decide_eq_false_iff_not]
  intro h
  exact (kidsR_is gr h).2.2 rfl)
theorem slt_chgs : SlT Tryz.prog 22 40 6 64 := by
  refine ⟨by kernel_rfl, ?_⟩
  obtain ⟨i, h1, h2, h3, h4⟩ := info_parts (by kernel_rfl : (Tryz.prog.info? 40).map (fun i => (i.zero, i.size, i.bytes)) = some (some (.agg #[.int .i64 0, .int .i64 0, .int .i64 0, .int .i64 0, .string ⟨#[]⟩, .string ⟨#[]⟩]), 6, 64))
  exact ⟨i, _, h1, h2, h3, h4, rfl⟩
theorem one_chg : ∀ (w : World) (cs : List Value) (y : Chg), rdChg w cs y → ∀ u ∈ cs, u.oneCell' = true := by
  rintro w cs y rfl u hu
  simp at hu
  rcases hu with rfl | rfl | rfl | rfl | rfl | rfl <;> rfl
end Go.Proofs.YtklbmkaomojciaaGreat
/- The laws of chapter 5: plain laws, then walked. -/
/- Roles: more plain laws. -/
namespace Go.Proofs.YtklbmkaomojciaaGreat
section
variable {d : Dc}
theorem hid_kid (g : Good d) {k x : Int} (hx : x ∈ kidsR d k) (h : hiddenM d k = true) : hiddenM d x = true := by
  obtain ⟨r, g'⟩ := g.tree
  obtain ⟨h1, h2⟩ := (mem_kidsR g').1 hx
  have hu : upR d x = k := by rw [upR_eq g']; exact h2
  have h0 : x ≠ 0 := by
    rintro rfl
    have := shown_up0 g
    rw [hu] at this
    have := (isM_nd.1 h1).1
    omega
  rw [hidden_step g, hu, h]
  simp [h0]
theorem hid_self (g : Good d) {k : Int} (h : hasA d k hiddenT = true) : hiddenM d k = true := by
  rw [hidden_step g]
  simp [offM, h]
def plainTo (d : Dc) : Nat → Bool
  | 0 => true
  | j + 1 => plainTo d j && !hasA d j hiddenT && !hasA d j ahiddenT
theorem plainTo_all : ∀ {j : Nat}, plainTo d j = true → ∀ k : Nat, k < j → hasA d k hiddenT = false ∧ hasA d k ahiddenT = false := by
  intro j
  induction j with
  | zero => intro _ k hk; omega
  | succ j ih =>
    intro h k hk
    simp only [plainTo, Bool.and_eq_true, Bool.not_eq_true'] at h
    rcases Nat.lt_or_ge k j with hk' | hk'
    · exact ih h.1.1 k hk'
    · obtain rfl : k = j := by omega
      exact ⟨h.1.2, h.2⟩
theorem said_not {n : Int} {s : Txt} (h : hasA d n s = false) : said d n s = [] := by
  unfold hasA at h
  unfold said
  cases hh : attrM d n s with
  | none => rfl
  | some v => rw [hh] at h; simp at h
theorem off_not {n : Int} (h1 : hasA d n hiddenT = false) (h2 : hasA d n ahiddenT = false) : offM d n = false := by
  unfold offM sq
  rw [h1, said_not h2]
  rfl
theorem hid_plain (g : Good d) (h : plainTo d d.length = true) : ∀ n ∈ shownR d, hiddenM d n = false := by
  obtain ⟨μ, -, hμ⟩ := up_falls g
  have key : ∀ f n, n ∈ shownR d → μ n < f → hiddenM d n = false := by
    intro f
    induction f with
    | zero => intro n _ h; omega
    | succ f ih =>
      intro n hn hf
      have hi := (shown_once g).2 n hn
      obtain ⟨k, hk, rfl, -⟩ := isM_iff.1 hi
      obtain ⟨a1, a2⟩ := plainTo_all h k hk
      rw [hidden_step g, hi, off_not a1 a2]
      by_cases h0 : (k : Int) = 0
      · simp [h0]
      · obtain ⟨j, hj, e⟩ := List.getElem_of_mem hn
        have := (shown_ahead g hj (by rw [e]; exact h0)).2
        rw [e] at this
        have hm := List.mem_of_mem_take this
        have h1 := shown_ge g hm
        rw [ih _ hm (by have := hμ _ h1; omega)]
        simp
  intro n hn
  exact key (μ n + 1) n hn (Nat.lt_succ_self _)
end
theorem tag_in {l : List (Str × Int)} {s : Str} {n : Int} (h : tagM l s = some n) : (s, n) ∈ l := by
  induction l with
  | nil => simp [tagM] at h
  | cons p r ih =>
    obtain ⟨k, m⟩ := p
    rw [tagM] at h
    split at h
    · rename_i e; simp at h; subst e h; simp
    · exact List.mem_cons_of_mem _ (ih h)
theorem find_lower {w : Str} (h : 0 < findM w) : lower w = w := by
  unfold findM at h
  split at h
  · omega
  · cases e : tagM roles w with
    | none => rw [e] at h; simp at h
    | some n =>
      have := tag_in e
      have hl : ∀ p ∈ roles, lower p.1 = p.1 := by decide
      exact hl _ this
theorem attr_ins {n v : Txt} : ∀ {l : List Att}, attrOf (insA n v l) n = some v := by
  intro l
  induction l with
  | nil => simp [insA, attrOf]
  | cons a l ih =>
    rw [insA]
    split
    · simp [attrOf]
    · rename_i h
      split
      · unfold attrOf at ih ⊢
        have hb : (a.name == n) = false := by simpa using h
        rw [List.find?_cons, hb]
        exact ih
      · simp [attrOf]
/-- what comes of an attribute that is set -/
theorem set_attr {d : Dc} (g : Good d) {n : Int} {s v : Txt} (h : (applyM d { kind := 5, node := n, name := s, value := v }).1 = 0) :
    Good (applyM d { kind := 5, node := n, name := s, value := v }).2.2 ∧ v.length ≤ 60 ∧ isM (applyM d { kind := 5, node := n, name := s, value := v }).2.2 n true = true ∧ said (applyM d { kind := 5, node := n, name := s, value := v }).2.2 n s = v := by
  refine ⟨apply_good g h, ?_⟩
  unfold applyM at h ⊢
  simp only at h ⊢
  split at h
  · simp at h
  rename_i c1
  rw [if_neg c1]
  split at h
  · simp at h
  rename_i c2
  rw [if_neg c2]
  split at h
  case isFalse c3 => exact absurd h c3
  rename_i c3
  rw [if_pos c3]
  have hi : isM d n false = true := by simpa using c2
  have hg := change_good (x := { kind := 5, node := n, name := s, value := v }) g hi c3
  obtain ⟨⟨r, g1⟩, _⟩ := hg
  have ht := g1.trim.1
  dsimp only
  generalize hD : trimM (changeM d { kind := 5, node := n, name := s, value := v }).2.2 = D at *
  unfold changeM at c3 ht
  simp only [show ¬ ((5 : Int) = 3) by decide, show ¬ ((5 : Int) = 4) by decide, show ¬ ((5 : Int) = 7) by decide, if_false] at c3 ht
  split at c3
  · simp at c3
  rename_i c4
  rw [if_neg c4] at ht
  rw [if_pos trivial] at c3 ht
  unfold attrChM at c3 ht
  simp only at c3 ht
  split at c3
  · simp at c3
  rename_i c5
  rw [if_neg c5] at ht
  split at c3
  · simp at c3
  rename_i c6
  rw [if_neg c6] at ht
  split at c3
  · simp at c3
  rename_i c7
  rw [if_neg c7] at ht
  simp only at ht
  obtain ⟨r0, g0⟩ := g.tree
  obtain ⟨k, hk, rfl, hlv⟩ := isM_iff.1 hi
  have e := ht (k : Int)
  rw [nd_with (by simp; omega), if_pos rfl] at e
  have hrs := (g0.ok (k : Int)).rising
  rw [atts_eq hrs] at e
  have hlive : isM D k false = true := isM_nd.2 ⟨by omega, by rw [e]; exact (isM_nd.1 hi).2⟩
  have htag : (nd D (k : Int)).tag ≠ [] := by rw [e]; simpa using c4
  have h3 : isM D k true = true := isM_tag.2 ⟨hlive, htag⟩
  refine ⟨by omega, h3, ?_⟩
  unfold said attrM
  rw [if_pos h3, e]
  simp only
  rw [attr_ins]
  rfl
/-- the first word that there is -/
theorem ask_words {lab : Bool} : ∀ (p : List Txt) (q : List Txt), (∀ w ∈ p, findM w < 0 ∧ lower w = w) → askF lab ((p ++ q).map lower) = askF lab (q.map lower) := by
  intro p
  induction p with
  | nil => intro q _; rfl
  | cons w p ih =>
    intro q h
    obtain ⟨h1, h2⟩ := h w (by simp)
    simp only [List.cons_append, List.map_cons, askF, h2]
    rw [if_neg (by omega), if_neg (by omega)]
    exact ih q (fun w hw => h w (by simp [hw]))
theorem asked_role {d : Dc} (g : Good d) {n : Int} {p q : List Txt} {w : Txt} (hi : isM d n true = true) (ht : toks (said d n roleT) = p ++ w :: q) (hp : ∀ w ∈ p, findM w < 0 ∧ lower w = w) (hw : 0 < findM w) (hn : (kOf (findM w)).need = 0) : roleM d n = findM w := by
  obtain ⟨h1, h2⟩ := isM_tag.1 hi
  have hb : baseM d n = findM w := by
    have ha : askedM d n = findM w := by
      unfold askedM
      rw [toks_lower, ht, ask_words p _ hp]
      simp only [List.map_cons, askF, find_lower hw]
      rw [if_neg (by omega), if_pos (by omega)]
    unfold baseM
    rw [ha, if_neg (by omega)]
  rw [(rn_step g n (isM_nd.1 h1).1).1, h1, hb, hn]
  simp [h2]
end Go.Proofs.YtklbmkaomojciaaGreat
/- The laws of chapter 5, walked. -/
namespace Go.Proofs.YtklbmkaomojciaaGreat
open Go.RowKit
def liT : Txt := [108, 105]
def ulT : Txt := [117, 108]
def roleL : List Chg := [{ kind := 1, name := liT, before := -1 }, { kind := 1, name := ulT, before := -1 }, { kind := 1, node := 2, name := liT, before := -1 }, { kind := 5, node := 2, name := hiddenT }, { kind := 5, node := 1, name := labelT, value := [120] }]
theorem rl_of1 : roleM (buildM roleL) 1 = 18 := by decide +kernel
theorem rl_of3 : roleM (buildM roleL) 3 = 6 := by decide +kernel
theorem rl_hid3 : hiddenM (buildM roleL) 3 = true := by decide +kernel
theorem rl_hid1 : hiddenM (buildM roleL) 1 = false := by decide +kernel
theorem rl_lab1 : labelledM (buildM roleL) 1 = true := by decide +kernel
theorem rl_lab2 : labelledM (buildM roleL) 2 = false := by decide +kernel
theorem need_ge (r : Int) : 0 ≤ (kOf r).need := (need_small r).2
theorem role_need {d : Dc} (g : Good d) {n : Int} (hn : 0 ≤ n) (h : (kOf (roleM d n)).need ≠ 0) : nearM d (upR d n) = (kOf (roleM d n)).need := by
  have e := (rn_step g n hn).1
  split at e
  · rw [e] at h; exact absurd (by decide) h
  · split at e
    · rw [e] at h; exact absurd (by decide) h
    · split at e
      · rename_i h0; rw [e] at h; exact absurd h0 h
      · split at e
        · rename_i h0; rw [h0, e]
        · rw [e] at h; exact absurd (by decide) h
end Go.Proofs.YtklbmkaomojciaaGreat
/- Elements' names: what they are: squeezed; a label that is said outright; who was not asked does not matter. Plain laws. -/
namespace Go.Proofs.YtklbmkaomojciaaGreat
def noSt : St := ⟨fun _ => false, fun _ => false⟩
def memo0 (d : Dc) (C : List Clm) (n : Int) : Txt × St :=
  if (nd d n).tag = [] ∨ (kOf (roleM d n)).named = true then nameF d C 100 n false false (markM d n noSt) else ([], markM d n noSt)
def descF (d : Dc) (C : List Clm) (n : Int) (s : St) : Txt × St := listedF d (fun k => nameF d C 100 k true true) n descT { had := fun x => x == n, asked := s.asked }
def memo1 (d : Dc) (C : List Clm) (n : Int) (r : Txt × St) : Txt × St :=
  if (nd d n).tag ≠ [] ∧ r.1 ≠ [] then (if (descF d C n r.2).1 = [] ∧ sq d n titleT ≠ r.1 then sq d n titleT else (descF d C n r.2).1, (descF d C n r.2).2) else ([], r.2)
structure Mm where
  name : Txt := []
  about : Txt := []
  uses : List Int := []
def usesOf (d : Dc) (s : St) : List Int := ((List.range d.length).map (fun k : Nat => (k : Int))).filter s.asked
def memoM (d : Dc) (C : List Clm) (n : Int) : Mm :=
  if isM d n false then ⟨(memo0 d C n).1, (memo1 d C n (memo0 d C n)).1, usesOf d (memo1 d C n (memo0 d C n)).2⟩ else {}
theorem squeeze_nil : squeeze [] = [] := rfl
def Sqz (t : Txt) : Prop := squeeze t = t
theorem sqz_sq (d : Dc) (n : Int) (s : Txt) : Sqz (sq d n s) := squeeze_twice _
theorem listed_sqz {d : Dc} {one : Int → St → Txt × St} {n : Int} {name : Txt} {s : St} : Sqz (listedF d one n name s).1 := squeeze_twice _
theorem name_sqz (d : Dc) (C : List Clm) : ∀ (f : Nat) (n : Int) (within listed : Bool) (s : St), Sqz (nameF d C f n within listed s).1 := by
  intro f
  induction f with
  | zero => intro n w l s; rfl
  | succ f ih =>
    intro n w l s
    rw [nameF_s]
    unfold nameStep
    split
    · rfl
    · split
      · exact squeeze_twice _
      · split
        · unfold step1
          split
          · rfl
          · exact listed_sqz
        · unfold step2
          split
          · exact sqz_sq _ _ _
          · split
            · exact sqz_sq _ _ _
            · split
              · unfold hostF
                split
                · exact sqz_sq _ _ _
                · split
                  · split
                    · exact ih _ _ _ _
                    · rfl
                  · rfl
              · split
                · unfold step3
                  split
                  · exact squeeze_twice _
                  · rfl
                · exact sqz_sq _ _ _
theorem memo_sqz (d : Dc) (C : List Clm) (n : Int) : Sqz (memoM d C n).name ∧ Sqz (memoM d C n).about ∧ ((memoM d C n).name = [] → (memoM d C n).about = []) := by
  have h0 : Sqz (memo0 d C n).1 := by
    unfold memo0
    split
    · exact name_sqz _ _ _ _ _ _ _
    · rfl
  unfold memoM
  split
  · refine ⟨h0, ?_, ?_⟩
    · dsimp only
      unfold memo1
      split
      · dsimp only
        split
        · exact sqz_sq _ _ _
        · exact listed_sqz
      · rfl
    · intro h
      dsimp only at h ⊢
      unfold memo1
      rw [if_neg (by rw [h]; simp)]
  · exact ⟨rfl, rfl, fun _ => rfl⟩
theorem memo_none {d : Dc} {C : List Clm} {n : Int} (h : hiddenM d n = true ∨ (isM d n true = true ∧ (kOf (roleM d n)).named = false)) : (memoM d C n).name = [] := by
  unfold memoM
  split
  · dsimp only
    unfold memo0
    split
    · rename_i h1 h2
      show (nameF d C (99 + 1) n false false (markM d n noSt)).1 = []
      rw [nameF_s]
      unfold nameStep
      rcases h with h | ⟨h, h3⟩
      · rw [if_pos (by simp [h])]
      · rcases h2 with h2 | h2
        · exact absurd h2 (isM_tag.1 h).2
        · rw [h3] at h2; simp at h2
    · rfl
  · rfl
theorem toks_none {s : Txt} (h : squeeze s = []) : toks s = [] := by
  rw [← toks_squeeze, h]; rfl
theorem memo_label {d : Dc} {C : List Clm} {n : Int} (hn : isM d n true = true) (hl : sq d n labelT ≠ []) (hh : hiddenM d n = false) (hk : (kOf (roleM d n)).named = true) (hb : sq d n labelledT = []) : (memoM d C n).name = sq d n labelT := by
  unfold memoM
  rw [if_pos (isM_el hn)]
  dsimp only
  unfold memo0
  rw [if_pos (.inr hk)]
  show (nameF d C (99 + 1) n false false (markM d n noSt)).1 = _
  rw [nameF_s]
  unfold nameStep
  rw [if_neg (by simp [hh]), if_neg (isM_tag.1 hn).2]
  have e : ∀ one s, (step1 d one n false s).1 = [] := fun one s => by
    unfold step1 listedF
    rw [toks_none (s := said d n labelledT) hb]
    rfl
  rw [if_neg (by rw [e]; simp)]
  unfold step2
  rw [if_pos hl]
end Go.Proofs.YtklbmkaomojciaaGreat
/- Elements' names: who was not asked does not matter. Plain laws. -/
namespace Go.Proofs.YtklbmkaomojciaaGreat
def alvlT : Txt := [97, 114, 105, 97, 45, 108, 101, 118, 101, 108]
def achkT : Txt := [97, 114, 105, 97, 45, 99, 104, 101, 99, 107, 101, 100]
def adisT : Txt := [97, 114, 105, 97, 45, 100, 105, 115, 97, 98, 108, 101, 100]
def chkT : Txt := [99, 104, 101, 99, 107, 101, 100]
/-- attributes that are only told -/
def plainL : List Txt := [altT, labelT, titleT, valueT, alvlT, achkT, adisT, chkT]
/-- two documents that part in a node's text, or its plain attributes, alone -/
structure SameBut (d y : Dc) (k : Int) : Prop where
  len : y.length = d.length
  live : ∀ n, (nd y n).live = (nd d n).live
  tag : ∀ n, (nd y n).tag = (nd d n).tag
  up : ∀ n, (nd y n).up = (nd d n).up
  kids : ∀ n, (nd y n).kids = (nd d n).kids
  hasS : ∀ n, (nd y n).hasS = (nd d n).hasS
  shadow : ∀ n, (nd y n).shadow = (nd d n).shadow
  inS : ∀ n, (nd y n).inS = (nd d n).inS
  attr : ∀ n s, s ∉ plainL → attrM y n s = attrM d n s
  rest : ∀ n, 0 ≤ n → n ≠ k → nd y n = nd d n
section
variable {d y : Dc} {k : Int}
theorem SameBut.isM (H : SameBut d y k) (n : Int) (el : Bool) : isM y n el = isM d n el := by
  unfold Proofs.YtklbmkaomojciaaGreat.isM
  rw [H.len, H.live, H.tag]
theorem SameBut.said (H : SameBut d y k) (n : Int) {s : Txt} (hs : s ∉ plainL) : said y n s = said d n s := by
  unfold Proofs.YtklbmkaomojciaaGreat.said
  rw [H.attr n s hs]
theorem SameBut.hasA (H : SameBut d y k) (n : Int) {s : Txt} (hs : s ∉ plainL) : hasA y n s = hasA d n s := by
  unfold Proofs.YtklbmkaomojciaaGreat.hasA
  rw [H.attr n s hs]
theorem SameBut.attrAt (H : SameBut d y k) {n : Int} (h0 : 0 ≤ n) (hn : n ≠ k) (s : Txt) : attrM y n s = attrM d n s := by
  unfold attrM
  rw [H.isM, H.rest n h0 hn]
theorem SameBut.saidAt (H : SameBut d y k) {n : Int} (h0 : 0 ≤ n) (hn : n ≠ k) (s : Txt) : Proofs.YtklbmkaomojciaaGreat.said y n s = Proofs.YtklbmkaomojciaaGreat.said d n s := by
  unfold Proofs.YtklbmkaomojciaaGreat.said
  rw [H.attrAt h0 hn]
theorem SameBut.sqAt (H : SameBut d y k) {n : Int} (h0 : 0 ≤ n) (hn : n ≠ k) (s : Txt) : sq y n s = sq d n s := by
  unfold sq
  rw [H.saidAt h0 hn]
theorem SameBut.hasAt (H : SameBut d y k) {n : Int} (h0 : 0 ≤ n) (hn : n ≠ k) (s : Txt) : Proofs.YtklbmkaomojciaaGreat.hasA y n s = Proofs.YtklbmkaomojciaaGreat.hasA d n s := by
  unfold Proofs.YtklbmkaomojciaaGreat.hasA
  rw [H.attrAt h0 hn]
theorem SameBut.path (H : SameBut d y k) : ∀ f n, pathF y f n = pathF d f n := by
  intro f
  induction f with
  | zero => intro n; rfl
  | succ f ih => intro n; unfold pathF; rw [H.isM, H.up, ih]
theorem SameBut.scope (H : SameBut d y k) (n : Int) : scopeM y n = scopeM d n := by
  unfold scopeM pathM
  rw [H.len, H.path]
  simp only [H.inS, H.up]
theorem SameBut.allF (H : SameBut d y k) : ∀ f n, allF y f n = allF d f n := by
  intro f
  induction f with
  | zero => intro n; rfl
  | succ f ih =>
    intro n
    have e : Proofs.YtklbmkaomojciaaGreat.allF y f = Proofs.YtklbmkaomojciaaGreat.allF d f := funext ih
    unfold Proofs.YtklbmkaomojciaaGreat.allF
    rw [H.isM, H.shadow, H.kids, e]
theorem SameBut.allM (H : SameBut d y k) : allM y = allM d := funext (H.allF 100)
theorem SameBut.slotR (H : SameBut d y k) : slotR y = slotR d := by
  funext n
  unfold Proofs.YtklbmkaomojciaaGreat.slotR
  rw [H.isM, H.inS, H.up, H.hasS, H.shadow, H.allM, H.said n (by decide)]
  have e : ∀ a b, slotOk y a b = slotOk d a b := fun a b => by
    funext z
    unfold slotOk
    rw [H.tag, H.scope, H.said z (by decide)]
  rw [e]
theorem SameBut.givenR (H : SameBut d y k) : givenR y = givenR d := by
  funext n
  unfold Proofs.YtklbmkaomojciaaGreat.givenR isSlot
  rw [H.isM, H.tag, H.scope, H.kids, H.slotR]
theorem SameBut.kidsR (H : SameBut d y k) : kidsR y = kidsR d := by
  funext n
  unfold Proofs.YtklbmkaomojciaaGreat.kidsR
  rw [H.isM, H.hasS, H.shadow, H.kids, H.givenR]
theorem SameBut.upR (H : SameBut d y k) : upR y = upR d := by
  funext n
  unfold Proofs.YtklbmkaomojciaaGreat.upR
  rw [H.kidsR, H.len]
theorem SameBut.ups (H : SameBut d y k) (n : Int) : ups y n = ups d n := by
  unfold Proofs.YtklbmkaomojciaaGreat.ups
  rw [H.upR]
theorem SameBut.shownR (H : SameBut d y k) : shownR y = shownR d := by
  unfold Proofs.YtklbmkaomojciaaGreat.shownR
  rw [H.kidsR]
theorem SameBut.findD (H : SameBut d y k) : findD y = findD d := by
  funext n id
  unfold Proofs.YtklbmkaomojciaaGreat.findD
  rw [H.isM, H.allM]
  have e : ∀ z, Proofs.YtklbmkaomojciaaGreat.said y z idT = Proofs.YtklbmkaomojciaaGreat.said d z idT := fun z => H.said z (by decide)
  simp only [H.scope, e]
theorem SameBut.claims (H : SameBut d y k) : claimsM y = claimsM d := by
  have e0 : ∀ l n a, onB y l n a = onB d l n a := fun l n a => by
    unfold onB inM
    rw [H.upR]
  have e1 : claimStep y = claimStep d := by
    funext n l id
    unfold claimStep
    rw [H.findD, H.shownR, e0]
  have e2 : claimsOf y = claimsOf d := by
    funext l n
    unfold claimsOf
    rw [e1, H.said n (by decide)]
  unfold claimsM
  rw [e2, H.shownR]
theorem SameBut.inside (H : SameBut d y k) (C : List Clm) (n : Int) : insideO y C n = insideO d C n := by
  unfold insideO
  rw [H.kidsR]
theorem SameBut.hid (H : SameBut d y k) (n : Int) : hiddenM y n = hiddenM d n := by
  have e : ∀ f n, hidF y f n = hidF d f n := by
    intro f
    induction f with
    | zero => intro n; rfl
    | succ f ih =>
      intro n
      unfold hidF offM sq
      rw [H.isM, H.hasA n (by decide), H.said n (by decide), H.upR, ih]
  exact e 100 n
theorem SameBut.labelled (H : SameBut d y k) {n : Int} (h0 : 0 ≤ n) (hn : n ≠ k) : labelledM y n = labelledM d n := by
  unfold labelledM
  rw [H.sqAt h0 hn, H.sqAt h0 hn]
theorem SameBut.base (H : SameBut d y k) {n : Int} (h0 : 0 ≤ n) (hn : n ≠ k) : baseM y n = baseM d n := by
  have e1 : askedM y n = askedM d n := by
    unfold askedM
    rw [H.labelled h0 hn, H.saidAt h0 hn]
  have e2 : tagRole y n = tagRole d n := by
    unfold tagRole
    rw [H.tag, H.labelled h0 hn, H.sqAt h0 hn, H.sqAt h0 hn, H.sqAt h0 hn, H.hasAt h0 hn, H.hasAt h0 hn]
  unfold baseM
  rw [e1, e2]
theorem SameBut.rn (H : SameBut d y k) : ∀ f n, k ∉ chainF (Proofs.YtklbmkaomojciaaGreat.upR d) f n → rnF y f n = rnF d f n := by
  intro f
  induction f with
  | zero => intro n _; rfl
  | succ f ih =>
    intro n h
    rw [rnF_s, rnF_s]
    by_cases h0 : n < 0
    · rw [if_pos h0, if_pos h0]
    · rw [if_neg h0, if_neg h0, H.upR]
      unfold chainF at h
      rw [if_neg h0] at h
      simp only [List.mem_cons, not_or] at h
      rw [ih _ h.2]
      unfold rnStep
      rw [H.isM, H.tag, H.base (by omega) (fun e => h.1 e.symm)]
theorem SameBut.role (H : SameBut d y k) {n : Int} (h : k ∉ Proofs.YtklbmkaomojciaaGreat.ups d n) : roleM y n = roleM d n := by
  unfold roleM
  rw [H.rn 100 n h]
theorem each_mono {one : Int → St → Txt × St} (h1 : ∀ k s x, s.asked x = true → (one k s).2.asked x = true) : ∀ (ks : List Int) (s : St) (x : Int), s.asked x = true → (eachF one ks s).2.asked x = true := by
  intro ks
  induction ks with
  | nil => intro s x h; exact h
  | cons k ks ih =>
    intro s x h
    unfold eachF
    split
    · exact ih _ _ (h1 _ _ _ h)
    · exact ih _ _ h
theorem step1_mono {one : Int → Bool → St → Txt × St} (h1 : ∀ k l s x, s.asked x = true → (one k l s).2.asked x = true) {n : Int} {w : Bool} {s : St} {x : Int} (h : s.asked x = true) : (step1 d one n w s).2.asked x = true := by
  unfold step1
  split
  · exact h
  · exact each_mono (fun k s x h => h1 k true s x h) _ _ _ h
theorem host_mono {one : Int → St → Txt × St} (h1 : ∀ k s x, s.asked x = true → (one k s).2.asked x = true) {n : Int} {s : St} {x : Int} (h : s.asked x = true) : (hostF d one n s).2.asked x = true := by
  unfold hostF
  split
  · exact h
  · split
    · split
      · exact h1 _ _ _ h
      · exact h
    · exact h
theorem step3_mono {C : List Clm} {one : Int → Bool → St → Txt × St} (h1 : ∀ k l s x, s.asked x = true → (one k l s).2.asked x = true) {n : Int} {w li : Bool} {s : St} {x : Int} (h : s.asked x = true) : (step3 d C one n w li s).2.asked x = true := by
  unfold step3
  split
  · exact each_mono (fun k s x h => h1 k li s x h) _ _ _ h
  · exact h
theorem step2_mono {C : List Clm} {one : Int → Bool → St → Txt × St} (h1 : ∀ k l s x, s.asked x = true → (one k l s).2.asked x = true) {n : Int} {w li : Bool} {s : St} {x : Int} (h : s.asked x = true) : (step2 d C one n w li s).2.asked x = true := by
  have h2 := host_mono (d := d) (n := n) (fun k s x h => h1 k false s x h) h
  unfold step2
  split
  · exact h
  · split
    · exact h
    · split
      · exact h2
      · split
        · exact step3_mono h1 h2
        · exact step3_mono h1 h2
theorem stepN_mono {C : List Clm} {one : Int → Bool → St → Txt × St} (h1 : ∀ k l s x, s.asked x = true → (one k l s).2.asked x = true) {n : Int} {w li : Bool} {s : St} {x : Int} (h : (markM d n s).asked x = true) : (nameStep d C one n w li s).2.asked x = true := by
  unfold nameStep
  split
  · exact h
  · split
    · exact h
    · split
      · exact step1_mono h1 h
      · exact step2_mono h1 (step1_mono h1 h)
theorem mark_mono {n : Int} {s : St} {x : Int} (h : s.asked x = true) : (markM d n s).asked x = true := by
  simp [markM, h]
theorem name_mono {C : List Clm} : ∀ (f : Nat) (n : Int) (w l : Bool) (s : St) (x : Int), s.asked x = true → (nameF d C f n w l s).2.asked x = true := by
  intro f
  induction f with
  | zero => intro n w l s x h; exact h
  | succ f ih =>
    intro n w l s x h
    rw [nameF_s]
    exact stepN_mono (fun k l s x h => ih k true l s x h) (mark_mono h)
theorem each_same {one one' : Int → St → Txt × St} (h1 : ∀ j s x, s.asked x = true → (one j s).2.asked x = true) (he : ∀ j s, 0 ≤ j → (one j s).2.asked k = false → one' j s = one j s) : ∀ (ks : List Int) (s : St), (eachF one ks s).2.asked k = false → eachF one' ks s = eachF one ks s := by
  intro ks
  induction ks with
  | nil => intro s _; rfl
  | cons j ks ih =>
    intro s h
    unfold eachF at h ⊢
    split
    · rename_i hc
      rw [if_pos hc] at h
      have h2 : (one j s).2.asked k = false := by
        cases e : (one j s).2.asked k with
        | false => rfl
        | true => rw [each_mono h1 ks _ _ e] at h; simp at h
      rw [he j s hc.1 h2, ih _ h]
    · rename_i hc
      rw [if_neg hc] at h
      exact ih _ h
theorem not_before {a b : Bool} (h : a = true → b = true) (hb : b = false) : a = false := by
  cases a with
  | false => rfl
  | true => rw [h rfl] at hb; simp at hb
theorem allF_is : ∀ (f : Nat) (n x : Int), x ∈ allF d f n → Proofs.YtklbmkaomojciaaGreat.isM d x false = true := by
  intro f
  induction f with
  | zero => intro n x h; simp [Proofs.YtklbmkaomojciaaGreat.allF] at h
  | succ f ih =>
    intro n x h
    unfold Proofs.YtklbmkaomojciaaGreat.allF at h
    split at h
    · rcases List.mem_cons.1 h with rfl | h
      · assumption
      · obtain ⟨z, _, hz⟩ := List.mem_flatMap.1 h
        exact ih z x hz
    · simp at h
theorem name_same (H : SameBut d y k) {C : List Clm} : ∀ (f : Nat) (n : Int) (w l : Bool) (s : St), 0 ≤ n → (nameF d C f n w l s).2.asked k = false → nameF y C f n w l s = nameF d C f n w l s := by
  intro f
  induction f with
  | zero => intro n w l s _ _; rfl
  | succ f ih =>
    intro n w l s h0 ha
    rw [nameF_s] at ha ⊢
    rw [nameF_s]
    have M1 : ∀ j l s x, s.asked x = true → (nameF d C f j true l s).2.asked x = true := fun j l s x h => name_mono f j true l s x h
    have hm : (markM d n s).asked k = false := not_before (fun h => stepN_mono (C := C) (w := w) (li := l) M1 h) ha
    have hu : k ∉ ups d n := by
      intro h
      simp [markM, h] at hm
    have hnk : n ≠ k := by
      intro e
      apply hu
      subst e
      unfold ups
      show n ∈ chainF (upR d) (99 + 1) n
      unfold chainF
      rw [if_neg (by omega)]
      exact List.mem_cons_self
    have ih' : ∀ (l : Bool) (j : Int) (s : St), 0 ≤ j → (nameF d C f j true l s).2.asked k = false → nameF y C f j true l s = nameF d C f j true l s := fun l j s hj h => ih j true l s hj h
    have em : markM y n s = markM d n s := by
      unfold markM
      rw [H.ups]
    have er := H.role hu
    have e1 : ∀ s, (step1 d (fun j l s => nameF d C f j true l s) n w s).2.asked k = false → step1 y (fun j l s => nameF y C f j true l s) n w s = step1 d (fun j l s => nameF d C f j true l s) n w s := fun s h => by
      unfold step1 at h ⊢
      split
      · rfl
      · rename_i hw
        rw [if_neg hw] at h
        unfold listedF at h ⊢
        rw [H.findD, H.saidAt h0 hnk]
        rw [each_same (fun j s x h => M1 j true s x h) (fun j s hj h => ih' true j s hj h) _ _ h]
    have e2 : ∀ s, (hostF d (fun j => nameF d C f j true false) n s).2.asked k = false → hostF y (fun j => nameF y C f j true false) n s = hostF d (fun j => nameF d C f j true false) n s := fun s h => by
      have el : labelFor y n s = labelFor d n s := by
        funext j
        unfold labelFor
        rw [H.tag, H.said j (by decide), H.said n (s := idT) (by decide), H.scope, H.scope]
      unfold hostF at h ⊢
      rw [H.tag, H.sqAt h0 hnk, H.saidAt h0 hnk, H.findD, H.allM, el]
      split
      · rfl
      · rename_i hi
        rw [if_neg hi] at h
        split
        · rename_i hj
          rw [if_pos hj] at h
          cases hf : (Proofs.YtklbmkaomojciaaGreat.allM d 0).find? (labelFor d n s) with
          | none => rfl
          | some j =>
            rw [hf] at h
            have := allF_is 100 0 j (List.mem_of_find?_eq_some hf)
            exact ih' false j s (isM_nd.1 this).1 h
        · rfl
    have e3 : ∀ s, (step3 d C (fun j l s => nameF d C f j true l s) n w l s).2.asked k = false → step3 y C (fun j l s => nameF y C f j true l s) n w l s = step3 d C (fun j l s => nameF d C f j true l s) n w l s := fun s h => by
      unfold step3 at h ⊢
      rw [er]
      split
      · rename_i hw
        rw [if_pos hw] at h
        unfold contentF at h ⊢
        rw [H.inside]
        rw [each_same (fun j s x h => M1 j l s x h) (fun j s hj h => ih' l j s hj h) _ _ h]
      · rfl
    unfold nameStep at ha ⊢
    rw [H.hid, H.tag, em, H.rest n h0 hnk]
    split
    · rfl
    · rename_i c1
      rw [if_neg c1] at ha
      split
      · rfl
      · rename_i c2
        rw [if_neg c2] at ha
        have hA : (step1 d (fun j l s => nameF d C f j true l s) n w (hitM n (markM d n s))).2.asked k = false := by
          split at ha
          · exact ha
          · exact not_before (fun h => step2_mono (n := n) (w := w) (li := l) (C := C) M1 h) ha
        rw [e1 _ hA]
        split
        · rfl
        · rename_i c3
          rw [if_neg c3] at ha
          generalize step1 d (fun j l s => nameF d C f j true l s) n w (hitM n (markM d n s)) = r1 at *
          unfold step2 at ha ⊢
          rw [H.sqAt h0 hnk, H.sqAt h0 hnk, H.sqAt h0 hnk, er]
          split
          · rfl
          · rename_i c4
            rw [if_neg c4] at ha
            split
            · rfl
            · rename_i c5
              rw [if_neg c5] at ha
              have hB : (hostF d (fun j => nameF d C f j true false) n r1.2).2.asked k = false := by
                split at ha
                · exact ha
                · split at ha
                  · exact not_before (fun h => step3_mono (n := n) (w := w) (li := l) (C := C) M1 h) ha
                  · exact not_before (fun h => step3_mono (n := n) (w := w) (li := l) (C := C) M1 h) ha
              rw [e2 _ hB]
              split
              · rfl
              · rename_i c6
                rw [if_neg c6] at ha
                have hC : (step3 d C (fun j l s => nameF d C f j true l s) n w l (hostF d (fun j => nameF d C f j true false) n r1.2).2).2.asked k = false := by
                  split at ha
                  · exact ha
                  · exact ha
                rw [e3 _ hC]
theorem memo_same (H : SameBut d y k) {C : List Clm} {n : Int} (hk : Proofs.YtklbmkaomojciaaGreat.isM d k false = true) (hu : k ∉ (memoM d C n).uses) : memoM y C n = memoM d C n := by
  unfold memoM at hu ⊢
  rw [H.isM]
  split
  · rename_i hn
    rw [if_pos hn] at hu
    have h0 : 0 ≤ n := (isM_nd.1 hn).1
    simp only at hu
    have hask : (memo1 d C n (memo0 d C n)).2.asked k = false := by
      cases e : (memo1 d C n (memo0 d C n)).2.asked k with
      | false => rfl
      | true =>
        refine absurd ?_ hu
        obtain ⟨q, hq, rfl, -⟩ := isM_iff.1 hk
        exact List.mem_filter.2 ⟨List.mem_map.2 ⟨q, List.mem_range.2 hq, rfl⟩, e⟩
    have hd : ∀ s x, s.asked x = true → (descF d C n s).2.asked x = true := fun s x h => each_mono (fun j s x h => name_mono 100 j true true s x h) _ _ _ h
    have hm0 : (memo0 d C n).2.asked k = false := by
      refine not_before (fun h => ?_) hask
      unfold memo1
      split
      · exact hd _ _ h
      · exact h
    have hmk : (markM d n noSt).asked k = false := by
      refine not_before (fun h => ?_) hm0
      unfold memo0
      split
      · exact name_mono _ _ _ _ _ _ h
      · exact h
    have hu : k ∉ ups d n := by
      intro h
      simp [markM, h] at hmk
    have hnk : n ≠ k := by
      intro e
      apply hu
      subst e
      unfold ups
      show n ∈ chainF (upR d) (99 + 1) n
      unfold chainF
      rw [if_neg (by omega)]
      exact List.mem_cons_self
    have em : markM y n noSt = markM d n noSt := by
      unfold markM
      rw [H.ups]
    have e0 : memo0 y C n = memo0 d C n := by
      unfold memo0 at hm0 ⊢
      rw [H.tag, H.role hu, em]
      split
      · rename_i c
        rw [if_pos c] at hm0
        exact name_same H 100 n false false _ h0 hm0
      · rfl
    rw [e0]
    have e1 : memo1 y C n (memo0 d C n) = memo1 d C n (memo0 d C n) := by
      unfold memo1 at hask ⊢
      rw [H.tag, H.sqAt h0 hnk]
      split
      · rename_i c
        rw [if_pos c] at hask
        have ed : descF y C n (memo0 d C n).2 = descF d C n (memo0 d C n).2 := by
          unfold descF listedF at hask ⊢
          rw [H.findD, H.saidAt h0 hnk]
          rw [each_same (fun j s x h => name_mono 100 j true true s x h) (fun j s hj h => name_same H 100 j true true s hj h) _ _ hask]
        rw [ed]
      · rfl
    rw [e1]
    have eu : usesOf y = usesOf d := by
      funext s
      unfold usesOf
      rw [H.len]
    rw [eu]
  · rfl
end
end Go.Proofs.YtklbmkaomojciaaGreat
