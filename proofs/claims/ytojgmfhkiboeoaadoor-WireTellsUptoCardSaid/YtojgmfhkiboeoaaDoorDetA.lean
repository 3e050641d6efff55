/- A region that draws its order, some of whose operations make and change memory of their own: those may come up in whatever order that each one's waiting allows; of each is said what it leaves, whatever of the others has come up. -/
import Derived.Test.YtojgmfhkiboeoaaDoorDet
namespace Go.Proofs.YtojgmfhkiboeoaaDoor
section
variable {P : Program} {ops : Array Oper} {Q : Exit → Act → World → Prop} {md : Region.Mode}
abbrev Ans := Nat → Option Value
def setX (x : Ans) (i : Nat) (u : Value) : Ans := fun j => if j = i then some u else x j
theorem setX_self (x : Ans) (i : Nat) (u : Value) : setX x i u i = some u := by simp [setX]
theorem setX_ne (x : Ans) {i j : Nat} (h : j ≠ i) (u : Value) : setX x i u j = x j := by simp [setX, h]
def SaysA (P : Program) (ops : Array Oper) (T : Ans → World → Prop) (x : Ans) (i : Nat) (o : Oper) (a : Act) : Prop :=
  ∀ w, T x w → Region.wanted o (yielded ops a.tmps) = true ∧ Wends P (fun u w' => T (setX x i u) w') ((execOp a.eval o).run P w)
theorem SaysA.of_same {T : Ans → World → Prop} {x : Ans} {i : Nat} {o : Oper} {a a' : Act} (hy : SaysA P ops T x i o a) (he : execOp a'.eval o = execOp a.eval o)
    (hw : Region.wanted o (yielded ops a'.tmps) = Region.wanted o (yielded ops a.tmps)) : SaysA P ops T x i o a' := by
  unfold SaysA at *
  rw [he, hw]
  exact hy
theorem SaysA.wpOp {T : Ans → World → Prop} {x : Ans} {i : Nat} {o : Oper} {a : Act} (hi : ops[i]? = some o) (hy : SaysA P ops T x i o a)
    {K : Act → World → Prop} {w : World} (hS : T x w) (h : ∀ u w', T (setX x i u) w' → K (a.put o.dst u) w') : wpOp P ops Q i K a w := by
  unfold Go.wpOp
  simp only [hi]
  simp only [(hy w hS).1, if_true, Oper.wp]
  exact .inl ((hy w hS).2.upon (fun u w' hu => h u w' hu))
def DetA (P : Program) (md : Region.Mode) (ops : Array Oper) (T : Ans → World → Prop) (stop : Array Bool) (F : Ans → Act → Prop) : Nat → Ans → Array Bool → Act → Prop
  | 0, x, listed, a => listed = stop ∧ F x a
  | n + 1, x, listed, a => Region.ready md ops listed ≠ [] ∧ ∀ i ∈ Region.ready md ops listed, ∃ o, ops[i]? = some o ∧
      ((SaysA P ops T x i o a ∧ ∀ u, DetA P md ops T stop F n (setX x i u) (listed.setIfInBounds i true) (a.put o.dst u)) ∨
       ∃ v, (∀ y, Says P ops (T y) o v a) ∧ DetA P md ops T stop F n x (listed.setIfInBounds i true) (a.put o.dst v))
theorem DetA.sound {T : Ans → World → Prop} {stop : Array Bool} {F : Ans → Act → Prop} {k : Nat} (hF : ∀ x a w, F x a → T x w → wpAny P md ops Q k stop a w) :
    ∀ (n : Nat) (x : Ans) (listed : Array Bool) (a : Act) (w : World), DetA P md ops T stop F n x listed a → T x w → wpAny P md ops Q (k + n) listed a w := by
  intro n
  induction n with
  | zero => rintro x listed a w ⟨rfl, h⟩ hS; exact hF x a w h hS
  | succ n ih =>
    rintro x listed a w ⟨hne, h⟩ hS
    refine ⟨fun h0 => absurd h0 hne, fun i hi => ?_⟩
    obtain ⟨o, ho, ⟨hy, hd⟩ | ⟨v, hy, hd⟩⟩ := h i hi
    · exact hy.wpOp ho hS (fun u w' hS' => ih _ _ _ w' (hd u) hS')
    · exact (hy x).wpOp ho hS (fun w' hS' => ih _ _ _ w' hd hS')
def ShutBy (md : Region.Mode) (ops : Array Oper) (listed : Array Bool) : Prop := ∀ j o, ops[j]? = some o → listed.getD j false = true → ∀ e ∈ o.after, Region.binds md e = true → listed.getD e.on false = true
theorem getD_opt {α : Type} (a : Array α) (i : Nat) (d : α) : a.getD i d = a[i]?.getD d := by
  unfold Array.getD
  split
  · rename_i h; simp [h]
  · rename_i h; simp [h]
theorem ShutBy.next {listed : Array Bool} (h : ShutBy md ops listed) {i : Nat} (hi : i ∈ Region.ready md ops listed) : ShutBy md ops (listed.setIfInBounds i true) := by
  intro j o ho hj e he hb
  by_cases hji : i = j
  · subst hji
    obtain ⟨_, o', ho', hall⟩ := mem_ready.1 hi
    rw [ho] at ho'
    cases ho'
    exact getD_set_true (hall e he hb)
  · rw [getD_set_ne false hji] at hj
    exact getD_set_true (h j o ho hj e he hb)
theorem shut_start (n : Nat) : ShutBy md ops (Array.replicate n false) := by
  intro j o _ hj
  exfalso
  rw [getD_opt] at hj
  by_cases h : j < n
  · rw [Array.getElem?_replicate, if_pos h] at hj; cases hj
  · rw [Array.getElem?_replicate, if_neg h] at hj; cases hj
theorem DetA.take {T : Ans → World → Prop} {stop : Array Bool} {F : Ans → Act → Prop} {i : Nat} {oi : Oper} {v : Value} (hi : ops[i]? = some oi) (hsel : ∀ (j : Nat) (o : Oper) cs b, ops[j]? = some o → o.op ≠ .select cs b)
    (hl : ∀ listed : Array Bool, ShutBy md ops listed → listed.setIfInBounds i true = stop → listed.getD i true = false → ∀ j, j ∈ Region.ready md ops listed → j = i) :
    ∀ (n : Nat) (x : Ans) (listed : Array Bool) (a : Act), ShutBy md ops listed →
      (∀ j oj, ops[j]? = some oj → j ≠ i → listed.getD j true = false → (∀ e ∈ oj.after, Region.binds md e = true → e.on ≠ i) → oi.apart ops oj = true) →
      i ∈ Region.ready md ops listed → (∀ y, Says P ops (T y) oi v a) →
      DetA P md ops T stop F n x (listed.setIfInBounds i true) (a.put oi.dst v) → DetA P md ops T stop F (n + 1) x listed a := by
  intro n
  induction n with
  | zero =>
    intro x listed a hsh _ hr hy H
    refine ⟨(fun h => by rw [h] at hr; cases hr), fun j hj => ?_⟩
    obtain rfl := hl listed hsh H.1 (mem_ready.1 hr).1 j hj
    exact ⟨oi, hi, .inr ⟨v, hy, H⟩⟩
  | succ n ih =>
    intro x listed a hsh hfree hr hy H
    refine ⟨(fun h => by rw [h] at hr; cases hr), fun j hj => ?_⟩
    by_cases hji : j = i
    · subst hji; exact ⟨oi, hi, .inr ⟨v, hy, H⟩⟩
    · obtain ⟨oj', hoj', hcase⟩ := H.2 j (ready_mono hj hji)
      obtain ⟨hjun, oj, hoj, hall⟩ := mem_ready.1 hj
      obtain rfl : oj' = oj := by rw [hoj] at hoj'; exact (Option.some.inj hoj').symm
      have hnot : ∀ e ∈ oj'.after, Region.binds md e = true → e.on ≠ i := fun e he hb heq => by
        have h1 := hall e he hb
        have h0 := (mem_ready.1 hr).1
        rw [heq] at h1
        rcases Nat.lt_or_ge i listed.size with h' | h'
        · simp [h'] at h0 h1; rw [h0] at h1; cases h1
        · simp [Array.getElem?_eq_none h'] at h1
      obtain ⟨h1, h2, h3⟩ := Oper.apart_spec (hfree j oj' hoj hji hjun hnot)
      have hsi : ∀ cs b, oi.op ≠ .select cs b := fun cs b => hsel i oi cs b hi
      have hsj : ∀ cs b, oj'.op ≠ .select cs b := fun cs b => hsel j oj' cs b hoj
      have hyi' : ∀ u y, Says P ops (T y) oi v (a.put oj'.dst u) := fun u y => (hy y).of_same (execOp_put oi hsi a oj'.dst u h3) (wanted_put oi a oj'.dst u h3)
      have hfree' : ∀ k ok, ops[k]? = some ok → k ≠ i → (listed.setIfInBounds j true).getD k true = false →
          (∀ e ∈ ok.after, Region.binds md e = true → e.on ≠ i) → oi.apart ops ok = true := fun k ok hk hki hun hno => by
        refine hfree k ok hk hki ?_ hno
        by_cases hjk : j = k
        · subst hjk; exact hjun
        · rw [getD_set_ne true hjk] at hun; exact hun
      have hrest : ∀ x' u, DetA P md ops T stop F n x' ((listed.setIfInBounds i true).setIfInBounds j true) ((a.put oi.dst v).put oj'.dst u) → DetA P md ops T stop F (n + 1) x' (listed.setIfInBounds j true) (a.put oj'.dst u) := fun x' u hd => by
        refine ih x' (listed.setIfInBounds j true) _ (hsh.next hj) hfree' (ready_mono hr (Ne.symm hji)) (hyi' u) ?_
        rw [Array.setIfInBounds_comm _ _ hji, ← Act.put_comm a v u h2]
        exact hd
      refine ⟨oj', hoj, ?_⟩
      rcases hcase with ⟨q3, q4⟩ | ⟨u, hyj, hd⟩
      · exact .inl ⟨q3.of_same (execOp_put oj' hsj a oi.dst v h1).symm (wanted_put oj' a oi.dst v h1).symm, fun u => hrest _ u (q4 u)⟩
      · exact .inr ⟨u, fun y => (hyj y).of_same (execOp_put oj' hsj a oi.dst v h1).symm (wanted_put oj' a oi.dst v h1).symm, hrest _ u hd⟩
def DetLA (P : Program) (ops : Array Oper) (T : Ans → World → Prop) (F : Act → Prop) : List Oper → Act → Prop
  | [], a => F a
  | o :: l, a => ∃ v, (∀ y, Says P ops (T y) o v a) ∧ DetLA P ops T F l (a.put o.dst v)
theorem DetLA.cons {T : Ans → World → Prop} {F : Act → Prop} {o : Oper} {l : List Oper} {a : Act} {v : Value} (h : ∀ y, Says P ops (T y) o v a) (k : DetLA P ops T F l (a.put o.dst v)) : DetLA P ops T F (o :: l) a := ⟨v, h, k⟩
theorem DetLA.nil {T : Ans → World → Prop} {F : Act → Prop} {a : Act} (h : F a) : DetLA P ops T F [] a := h
def planGoA (md : Region.Mode) (ops : Array Oper) : List Nat → Array Bool → Bool
  | [], _ => true
  | i :: is, listed => Region.free md ops listed i && (Region.ready md ops listed).contains i && planGoA md ops is (listed.setIfInBounds i true)
def bitsOf (md : Region.Mode) (ms : List Nat) (o : Oper) : Nat := o.after.toList.foldl (fun m e => if Region.binds md e then m ||| (1 <<< e.on) ||| ms.getD e.on 0 else m) 0
def bits (md : Region.Mode) (ops : Array Oper) : Nat → List Nat
  | 0 => []
  | k + 1 => bits md ops k ++ [match ops[k]? with | none => 0 | some o => bitsOf md (bits md ops k) o]
def lateOk (md : Region.Mode) (ops : Array Oper) (pre js : List Nat) : Bool :=
  ((List.range ops.size).all fun j => pre.contains j || js.contains j) && (js.all fun j => !pre.contains j) &&
  (js.tail.all fun j => match ops[j]? with | some oj => oj.after.any (fun x => Region.binds md x && js.contains x.on) | none => false) &&
  match js.head? with
  | none => true
  | some j => let m := (bits md ops ops.size).getD j 0; pre.all fun i => m.testBit i
theorem bitsOf_get {ms : List Nat} {o : Oper} {i : Nat} (h : (bitsOf md ms o).testBit i = true) : ∃ e ∈ o.after, Region.binds md e = true ∧ (e.on = i ∨ (ms.getD e.on 0).testBit i = true) := by
  have key : ∀ (L : List Edge) (m : Nat), (L.foldl (fun m e => if Region.binds md e then m ||| (1 <<< e.on) ||| ms.getD e.on 0 else m) m).testBit i = true → m.testBit i = true ∨ ∃ e ∈ L, Region.binds md e = true ∧ (e.on = i ∨ (ms.getD e.on 0).testBit i = true) := by
    intro L
    induction L with
    | nil => intro m h; exact .inl h
    | cons e L ih =>
      intro m h
      rcases ih _ h with k | ⟨e', he', k⟩
      · simp only at k
        split at k
        · rename_i hb
          rw [Nat.testBit_or, Nat.testBit_or, Bool.or_eq_true, Bool.or_eq_true] at k
          rcases k with (k | k) | k
          · exact .inl k
          · refine .inr ⟨e, by simp, hb, .inl ?_⟩
            rw [Nat.one_shiftLeft, Nat.testBit_two_pow] at k
            simpa using k
          · exact .inr ⟨e, by simp, hb, .inr k⟩
        · exact .inl k
      · exact .inr ⟨e', List.mem_cons_of_mem _ he', k⟩
  rcases key o.after.toList 0 h with h | ⟨e, he, h⟩
  · simp at h
  · exact ⟨e, by simpa using he, h⟩
theorem bits_len : ∀ k, (bits md ops k).length = k := by
  intro k
  induction k with
  | zero => rfl
  | succ k ih => simp [bits, ih]
theorem bits_in {listed : Array Bool} (hsh : ShutBy md ops listed) : ∀ (k r i : Nat), ((bits md ops k).getD r 0).testBit i = true → ∀ o, ops[r]? = some o → (∀ e ∈ o.after, Region.binds md e = true → listed.getD e.on false = true) → listed.getD i false = true := by
  intro k
  induction k with
  | zero => intro r i h; simp [bits] at h
  | succ k ih =>
    intro r i h o ho hall
    unfold bits at h
    rcases Nat.lt_trichotomy r k with hr | hr | hr
    · rw [List.getD_eq_getElem?_getD, List.getElem?_append_left (by rw [bits_len]; exact hr), ← List.getD_eq_getElem?_getD] at h
      exact ih r i h o ho hall
    · subst hr
      rw [List.getD_eq_getElem?_getD, List.getElem?_append_right (by rw [bits_len]; exact Nat.le_refl _), bits_len, Nat.sub_self] at h
      simp only [List.getElem?_cons_zero, Option.getD_some, ho] at h
      obtain ⟨e, he, hb, h | h⟩ := bitsOf_get h
      · rw [← h]; exact hall e he hb
      · have hl := hall e he hb
        have hsz : e.on < ops.size ∨ ops[e.on]? = none := by
          rcases Nat.lt_or_ge e.on ops.size with q | q
          · exact .inl q
          · exact .inr (by simp [q])
        rcases hsz with q | q
        · exact ih e.on i h ops[e.on] (by simp [q]) (fun e' he' hb' => hsh e.on ops[e.on] (by simp [q]) hl e' he' hb')
        · exfalso
          have : ∀ n x, ops[x]? = none → ((bits md ops n).getD x 0).testBit i = false := by
            intro n
            induction n with
            | zero => intro x _; simp [bits]
            | succ n ihn =>
              intro x hx
              unfold bits
              rcases Nat.lt_trichotomy x n with hr | hr | hr
              · rw [List.getD_eq_getElem?_getD, List.getElem?_append_left (by rw [bits_len]; exact hr), ← List.getD_eq_getElem?_getD]
                exact ihn x hx
              · subst hr
                rw [List.getD_eq_getElem?_getD, List.getElem?_append_right (by rw [bits_len]; exact Nat.le_refl _), bits_len, Nat.sub_self]
                simp [hx]
              · rw [List.getD_eq_getElem?_getD, List.getElem?_eq_none (by simp [bits_len]; omega)]
                simp
          rw [this _ _ q] at h
          cases h
    · rw [List.getD_eq_getElem?_getD, List.getElem?_eq_none (by simp [bits_len]; omega)] at h
      simp at h
theorem listedBy_get0 (is : List Nat) : ∀ (b : Array Bool) (j : Nat), (listedBy is b)[j]? = b[j]?.map (fun c => c || is.contains j) := by
  induction is with
  | nil => intro b j; simp [listedBy]
  | cons i is ih =>
    intro b j
    have : listedBy (i :: is) b = listedBy is (b.setIfInBounds i true) := rfl
    rw [this, ih]
    by_cases e : i = j
    · subst e
      rcases Nat.lt_or_ge i b.size with h | h
      · rw [Array.getElem?_setIfInBounds_self_of_lt h]; simp [h]
      · simp [h]
    · rw [Array.getElem?_setIfInBounds_ne e]
      have : (i :: is).contains j = is.contains j := by simp [Ne.symm e]
      rw [this]
theorem late_take {l : List Oper} {pre js : List Nat} (hk : lateOk md l.toArray pre js = true) {i : Nat} (hi : i ∈ pre) (listed : Array Bool) (hsh : ShutBy md l.toArray listed) (he : listed.setIfInBounds i true = listedBy pre (Array.replicate l.length false)) (hf : listed.getD i true = false) (j : Nat) (hj : j ∈ Region.ready md l.toArray listed) : j = i := by
  unfold lateOk at hk
  simp only [Bool.and_eq_true] at hk
  obtain ⟨⟨⟨k1, k2⟩, k3⟩, k4⟩ := hk
  by_cases hji : j = i
  · exact hji
  exfalso
  obtain ⟨hjun, o, ho, hall⟩ := mem_ready.1 hj
  have hjl : j < l.length := by have := (Array.getElem?_eq_some_iff.1 ho).1; simpa using this
  have hst : ∀ x, x ≠ i → x < l.length → listed.getD x false = pre.contains x := fun x hx hxl => by
    have : listed[x]? = (listedBy pre (Array.replicate l.length false))[x]? := by rw [← he, Array.getElem?_setIfInBounds_ne (Ne.symm hx)]
    rw [getD_opt, this, listedBy_get0]
    simp [hxl]
  have hpj : pre.contains j = false := by
    rw [← hst j hji hjl]
    rw [getD_opt] at hjun ⊢
    cases hc : listed[j]? with
    | none => rfl
    | some c => rw [hc] at hjun; exact hjun
  have hjs : j ∈ js := by
    have := List.all_eq_true.1 k1 j (by simpa using hjl)
    rw [hpj] at this
    simpa using this
  cases js with
  | nil => cases hjs
  | cons j0 js' =>
    by_cases hh : j = j0
    · subst hh
      simp only [List.head?_cons, List.all_eq_true] at k4
      have := bits_in hsh _ j i (k4 i hi) o ho hall
      rw [getD_opt] at this hf
      cases hc : listed[i]? with
      | none => rw [hc] at this; cases this
      | some c => rw [hc] at this hf; simp at this hf; rw [this] at hf; cases hf
    · have hit : j ∈ js' := by
        rcases List.mem_cons.1 hjs with e | e
        · exact absurd e hh
        · exact e
      have h4 := List.all_eq_true.1 k3 j hit
      simp only [ho] at h4
      obtain ⟨e, he', h⟩ := Array.any_eq_true'.1 h4
      simp only [Bool.and_eq_true] at h
      have hej : e.on ∈ j0 :: js' := by simpa using h.2
      have hpe : pre.contains e.on = false := by simpa using List.all_eq_true.1 k2 e.on hej
      have hle := hall e he' h.1
      have hei : e.on ≠ i := fun q => by
        rw [q] at hpe
        have : pre.contains i = true := by simpa using hi
        rw [this] at hpe
        cases hpe
      rcases Nat.lt_or_ge e.on l.length with q | q
      · rw [hst e.on hei q, hpe] at hle; cases hle
      · have : listed.size = l.length := by
          have := congrArg Array.size he
          rw [Array.size_setIfInBounds] at this
          rw [this]
          have : ∀ (is : List Nat) (b : Array Bool), (listedBy is b).size = b.size := by
            intro is
            induction is with
            | nil => intro b; rfl
            | cons y is ih => intro b; unfold listedBy at *; rw [List.foldl_cons, ih]; simp
          rw [this]; simp
        rw [getD_opt] at hle
        simp [this, q] at hle
theorem det_planA {T : Ans → World → Prop} {pre js : List Nat} {l : List Oper} (hs : Region.noSelect l.toArray = true) (hk : lateOk md l.toArray pre js = true) {F : Ans → Act → Prop} {x : Ans} {m : Nat} : ∀ (is : List Nat) (listed : Array Bool) (a : Act), ShutBy md l.toArray listed → (∀ i ∈ is, i ∈ pre) → planGoA md l.toArray is listed = true →
    DetLA P l.toArray T (fun a => DetA P md l.toArray T (listedBy pre (Array.replicate l.length false)) F m x (listedBy is listed) a) (pickL l is) a → DetA P md l.toArray T (listedBy pre (Array.replicate l.length false)) F (m + is.length) x listed a := by
  intro is
  induction is with
  | nil => intro listed a _ _ _ h; exact h
  | cons i is ih =>
    intro listed a hsh hpre hp h
    simp only [planGoA, Bool.and_eq_true] at hp
    obtain ⟨⟨q1, q2⟩, q4⟩ := hp
    have q2' : i ∈ Region.ready md l.toArray listed := by simpa using q2
    obtain ⟨_, o, ho, _⟩ := mem_ready.1 q2'
    have hpk : pickL l (i :: is) = o :: pickL l is := by
      have ho' : l[i]? = some o := by simpa using ho
      simp [pickL, ho']
    rw [hpk] at h
    obtain ⟨v, hy, hd⟩ := h
    exact DetA.take ho (Region.noSelect_spec hs) (late_take hk (hpre i (by simp))) (m + is.length) x listed a hsh (Region.free_spec ho q1) q2' hy (ih _ _ (hsh.next q2') (fun y hy => hpre y (List.mem_cons_of_mem _ hy)) q4 hd)
abbrev Acting := Nat × Option Tmp × List Nat
def listX (A : List Acting) (x : Ans) (b : Array Bool) : Array Bool := b.mapIdx fun i c => c || (A.any (fun p => p.1 == i) && (x i).isSome)
def putX (A : List Acting) (x : Ans) (a : Act) : Act :=
  { a with tmps := a.tmps.mapIdx fun t v => match A.find? (fun p => p.2.1 == some t) with | some p => (x p.1).getD v | none => v }
def Reads (A : List Acting) (a : Act) (x : Ans) (ρ : Operand → Value) : Prop :=
  (∀ y, (∀ p ∈ A, ∀ s, p.2.1 = some s → y ≠ .tmp s) → ρ y = a.eval y) ∧ ∀ p ∈ A, ∀ s u, p.2.1 = some s → x p.1 = some u → ρ (.tmp s) = u
def ActsH (P : Program) (T : Ans → World → Prop) (A : List Acting) (a : Act) : List Acting → List Oper → Prop
  | [], [] => True
  | p :: r, o :: os => (∀ x ρ w, x p.1 = none → (∀ e ∈ p.2.2, ∃ u, x e = some u) → Reads A a x ρ → T x w → Wends P (fun u w' => T (setX x p.1 u) w') ((execOp ρ o).run P w)) ∧ ActsH P T A a r os
  | _, _ => False
def actsOk (md : Region.Mode) (ops : Array Oper) (A : List Acting) (is js : List Nat) : Bool :=
  let N := A.map (·.1)
  (A.all fun p => match ops[p.1]? with
    | none => false
    | some o => o.guard.isNone && o.dst == p.2.1 && (o.after.all fun x => !Region.binds md x || (is.contains x.on && decide (x.on < ops.size)) || (N.contains x.on && decide (x.on < p.1))) && (p.2.2.all fun e => N.contains e && o.after.any fun x => Region.binds md x && x.on == e) && !is.contains p.1 &&
        (js.isEmpty || (List.range ops.size).any fun j => decide (p.1 < j) && (N.contains j || js.head? == some j) && match ops[j]? with | some oj => oj.after.any (fun x => Region.binds md x && x.on == p.1) | none => false)) &&
  decide N.Nodup && decide ((A.filterMap (·.2.1)).Nodup) &&
  (js.tail.all fun j => match ops[j]? with | some oj => oj.after.any (fun x => Region.binds md x && js.contains x.on) | none => false) &&
  ((List.range ops.size).all fun j => is.contains j || N.contains j || js.contains j) && (js.all fun j => !is.contains j && !N.contains j)
def planA (md : Region.Mode) (ops : Array Oper) (is : List Nat) (A : List Acting) (js : List Nat) : Bool :=
  let b := Array.replicate ops.size false
  let pre := is ++ A.map (·.1)
  Region.noSelect ops && (is.length + A.length + js.length == ops.size) && planGoA md ops is b && lateOk md ops pre js && actsOk md ops A is js && chainGo md ops js (listedBy pre b)
theorem listedBy_get (is : List Nat) (b : Array Bool) (j : Nat) : (listedBy is b)[j]? = b[j]?.map (fun c => c || is.contains j) := listedBy_get0 is b j
theorem listX_get (A : List Acting) (x : Ans) (b : Array Bool) (j : Nat) : (listX A x b)[j]? = b[j]?.map (fun c => c || (A.any (fun p => p.1 == j) && (x j).isSome)) := by simp [listX]
theorem any_mem {A : List Acting} {j : Nat} : A.any (fun p => p.1 == j) = (A.map (·.1)).contains j := by
  rw [Bool.eq_iff_iff]
  simp [List.any_eq_true]
theorem listX_set {A : List Acting} {x : Ans} {b : Array Bool} {i : Nat} (hi : i ∈ A.map (·.1)) (u : Value) : (listX A x b).setIfInBounds i true = listX A (setX x i u) b := by
  apply Array.ext_getElem?
  intro j
  by_cases e : i = j
  · subst e
    rw [listX_get, setX_self, any_mem]
    rcases Nat.lt_or_ge i b.size with h | h
    · rw [Array.getElem?_setIfInBounds_self_of_lt (by simpa [listX] using h)]
      have : (A.map (·.1)).contains i = true := by simpa using hi
      rw [this]
      simp [h]
    · simp [h, listX]
  · rw [Array.getElem?_setIfInBounds_ne e, listX_get, listX_get, setX_ne _ (Ne.symm e)]
theorem find_dst {A : List Acting} (hd : (A.filterMap (·.2.1)).Nodup) {p : Acting} (hp : p ∈ A) {s : Tmp} (hs : p.2.1 = some s) : A.find? (fun q => q.2.1 == some s) = some p := by
  induction A with
  | nil => cases hp
  | cons q A ih =>
    by_cases e : q.2.1 = some s
    · rw [List.find?_cons_of_pos (by simpa using e)]
      rcases List.mem_cons.1 hp with h | h
      · rw [h]
      · exfalso
        rw [List.filterMap_cons, e] at hd
        simp only [List.nodup_cons] at hd
        exact hd.1 (List.mem_filterMap.2 ⟨p, h, hs⟩)
    · rw [List.find?_cons_of_neg (by simpa using e)]
      rcases List.mem_cons.1 hp with h | h
      · exact absurd (h ▸ hs) e
      · refine ih ?_ h
        rw [List.filterMap_cons] at hd
        cases hq : q.2.1 with
        | none => rw [hq] at hd; exact hd
        | some t => rw [hq] at hd; exact (List.nodup_cons.1 hd).2
theorem putX_get (A : List Acting) (x : Ans) (a : Act) (t : Nat) : (putX A x a).tmps[t]? = a.tmps[t]?.map (fun v => match A.find? (fun p => p.2.1 == some t) with | some p => (x p.1).getD v | none => v) := by simp [putX]
theorem putX_put {A : List Acting} (hn : (A.map (·.1)).Nodup) (hd : (A.filterMap (·.2.1)).Nodup) {x : Ans} {a : Act} {p : Acting} (hp : p ∈ A) (u : Value) : (putX A x a).put p.2.1 u = putX A (setX x p.1 u) a := by
  have key : ∀ q ∈ A, q.1 = p.1 → q = p := fun q hq e => by
    clear hd
    induction A with
    | nil => cases hp
    | cons r A ih =>
      simp only [List.map_cons, List.nodup_cons] at hn
      rcases List.mem_cons.1 hp with h | h <;> rcases List.mem_cons.1 hq with k | k
      · rw [h, k]
      · exact absurd (List.mem_map.2 ⟨q, k, e.trans (by rw [h])⟩) hn.1
      · exact absurd (List.mem_map.2 ⟨p, h, e.symm.trans (by rw [k])⟩) hn.1
      · exact ih hn.2 h k
  cases hs : p.2.1 with
  | none =>
    show putX A x a = _
    unfold putX
    congr 1
    apply Array.ext_getElem?
    intro t
    simp only [Array.getElem?_mapIdx]
    congr 1
    funext v
    cases hf : A.find? (fun q => q.2.1 == some t) with
    | none => rfl
    | some q =>
      have hq := List.mem_of_find?_eq_some hf
      have hqt : q.2.1 = some t := by simpa using List.find?_some hf
      have : q.1 ≠ p.1 := fun e => by have := key q hq e; rw [this, hs] at hqt; cases hqt
      simp only [setX_ne _ this]
  | some s =>
    unfold Act.put putX
    simp only
    congr 1
    apply Array.ext_getElem?
    intro t
    by_cases e : s = t
    · subst e
      rcases Nat.lt_or_ge s a.tmps.size with h | h
      · rw [Array.getElem?_setIfInBounds_self_of_lt (by simpa using h)]
        simp only [Array.getElem?_mapIdx, find_dst hd hp hs, setX_self]
        simp [h]
      · simp [h]
    · rw [Array.getElem?_setIfInBounds_ne e]
      simp only [Array.getElem?_mapIdx]
      congr 1
      funext v
      cases hf : A.find? (fun q => q.2.1 == some t) with
      | none => rfl
      | some q =>
        have hq := List.mem_of_find?_eq_some hf
        have hqt : q.2.1 = some t := by simpa using List.find?_some hf
        have : q.1 ≠ p.1 := fun e' => by have := key q hq e'; rw [this, hs] at hqt; cases hqt; exact e rfl
        simp only [setX_ne _ this]
theorem putX_none (A : List Acting) (a : Act) : putX A (fun _ => none) a = a := by
  unfold putX
  have : (a.tmps.mapIdx fun t v => match A.find? (fun p => p.2.1 == some t) with | some p => ((fun _ => none : Ans) p.1).getD v | none => v) = a.tmps := by
    apply Array.ext_getElem?
    intro t
    simp only [Array.getElem?_mapIdx]
    cases a.tmps[t]? with
    | none => rfl
    | some v => simp only [Option.map_some, Option.getD_none]; split <;> rfl
  rw [this]
theorem putX_reads {A : List Acting} (hd : (A.filterMap (·.2.1)).Nodup) {x : Ans} {a : Act} (hsz : ∀ p ∈ A, ∀ s, p.2.1 = some s → s < a.tmps.size) : Reads A a x (putX A x a).eval := by
  refine ⟨fun y hy => ?_, fun p hp s u hs hx => ?_⟩
  · cases y with
    | tmp t =>
      show (putX A x a).tmps.getD t undef = a.tmps.getD t undef
      rw [getD_opt, getD_opt, putX_get]
      have : A.find? (fun p => p.2.1 == some t) = none := by
        rw [List.find?_eq_none]
        intro p hp h
        exact hy p hp t (by simpa using h) rfl
      rw [this]
      simp
    | _ => rfl
  · show (putX A x a).tmps.getD s undef = u
    rw [getD_opt, putX_get, find_dst hd hp hs]
    have := hsz p hp s hs
    simp [this, hx]
theorem acts_get {T : Ans → World → Prop} {A : List Acting} {a : Act} {l : List Oper} : ∀ (B : List Acting), (∀ p ∈ B, ∃ o, l[p.1]? = some o) → ActsH P T A a B (pickL l (B.map (·.1))) → ∀ p ∈ B, ∀ o, l[p.1]? = some o →
    ∀ x ρ w, x p.1 = none → (∀ e ∈ p.2.2, ∃ u, x e = some u) → Reads A a x ρ → T x w → Wends P (fun u w' => T (setX x p.1 u) w') ((execOp ρ o).run P w) := by
  intro B
  induction B with
  | nil => intro _ _ p hp; cases hp
  | cons q B ih =>
    intro hB h p hp o ho
    obtain ⟨oq, hoq⟩ := hB q (by simp)
    have hpk : pickL l ((q :: B).map (·.1)) = oq :: pickL l (B.map (·.1)) := by simp [pickL, hoq]
    rw [hpk] at h
    obtain ⟨h1, h2⟩ := h
    rcases List.mem_cons.1 hp with e | e
    · subst e
      rw [hoq] at ho
      cases ho
      exact h1
    · exact ih (fun p hp => hB p (List.mem_cons_of_mem _ hp)) h2 p e o ho
theorem filter_one {N : List Nat} (hN : N.Nodup) {x : Ans} {k : Nat} (hk : k ∈ N) (hx : x k = none) (u : Value) : (N.filter (fun i => (setX x k u i).isNone)).length + 1 = (N.filter (fun i => (x i).isNone)).length := by
  induction N with
  | nil => cases hk
  | cons y N ih =>
    obtain ⟨h1, h2⟩ := List.nodup_cons.1 hN
    by_cases e : y = k
    · subst e
      have : N.filter (fun i => (setX x y u i).isNone) = N.filter (fun i => (x i).isNone) := by
        apply List.filter_congr
        intro i hi
        have hne : i ≠ y := fun h => h1 (by rw [← h]; exact hi)
        rw [setX_ne _ hne]
      rw [List.filter_cons_of_neg (by simp [setX_self]), List.filter_cons_of_pos (by simp [hx]), this]
      simp
    · have hk' : k ∈ N := by
        rcases List.mem_cons.1 hk with h | h
        · exact absurd h.symm e
        · exact h
      have := ih h2 hk'
      have e2 : (setX x k u y).isNone = (x y).isNone := by rw [setX_ne _ e]
      by_cases h : (x y).isNone = true
      · rw [List.filter_cons_of_pos (by rw [e2]; exact h), List.filter_cons_of_pos (p := fun i => (x i).isNone) h]
        simp only [List.length_cons]
        omega
      · rw [List.filter_cons_of_neg (by rw [e2]; exact h), List.filter_cons_of_neg (p := fun i => (x i).isNone) h]
        exact this
theorem acts_run {T : Ans → World → Prop} {l : List Oper} {A : List Acting} {is js : List Nat} (hok : actsOk md l.toArray A is js = true) {a : Act} (hsz : ∀ p ∈ A, ∀ s, p.2.1 = some s → s < a.tmps.size)
    (hA : ActsH P T A a A (pickL l (A.map (·.1)))) {F : Ans → Act → Prop} (hF : ∀ x, (∀ p ∈ A, ∃ u, x p.1 = some u) → (∀ i, i ∉ A.map (·.1) → x i = none) → F x (putX A x a)) :
    ∀ (n : Nat) (x : Ans), ((A.map (·.1)).filter (fun i => (x i).isNone)).length = n → (∀ i, i ∉ A.map (·.1) → x i = none) →
      (∀ p ∈ A, (∃ u, x p.1 = some u) → ∀ o, l[p.1]? = some o → ∀ e ∈ o.after, Region.binds md e = true → e.on ∈ A.map (·.1) → ∃ u, x e.on = some u) →
      DetA P md l.toArray T (listedBy (A.map (·.1)) (listedBy is (Array.replicate l.length false))) F n x (listX A x (listedBy is (Array.replicate l.length false))) (putX A x a) := by
  unfold actsOk at hok
  simp only [Bool.and_eq_true, decide_eq_true_eq] at hok
  obtain ⟨⟨⟨⟨⟨ok1, ok2⟩, ok3⟩, ok4⟩, ok5⟩, ok6⟩ := hok
  have hop : ∀ p ∈ A, ∃ o, l[p.1]? = some o ∧ o.guard = none ∧ o.dst = p.2.1 ∧ (∀ e ∈ o.after, Region.binds md e = true → (e.on ∈ is ∧ e.on < l.length) ∨ (e.on ∈ A.map (·.1) ∧ e.on < p.1)) ∧ (∀ e ∈ p.2.2, e ∈ A.map (·.1) ∧ ∃ x ∈ o.after, Region.binds md x = true ∧ x.on = e) ∧ p.1 ∉ is ∧
      (js ≠ [] → ∃ j oj, p.1 < j ∧ (j ∈ A.map (·.1) ∨ js.head? = some j) ∧ l[j]? = some oj ∧ ∃ x ∈ oj.after, Region.binds md x = true ∧ x.on = p.1) := by
    intro p hp
    have h := List.all_eq_true.1 ok1 p hp
    cases ho : l[p.1]? with
    | none => simp [ho] at h
    | some o =>
      simp only [List.getElem?_toArray, ho, Bool.and_eq_true] at h
      obtain ⟨⟨⟨⟨⟨h1, h2⟩, h3⟩, h4⟩, h5⟩, h6⟩ := h
      refine ⟨o, rfl, by simpa using h1, by simpa using h2, fun e he hb => ?_, fun e he => ?_, by simpa using h5, ?_⟩
      · have := Array.all_eq_true_iff_forall_mem.1 h3 e he
        simp only [hb, Bool.not_true, Bool.false_or, Bool.or_eq_true, Bool.and_eq_true, decide_eq_true_eq] at this
        rcases this with ⟨h, k⟩ | ⟨h, k⟩
        · exact .inl ⟨by simpa using h, by simpa using k⟩
        · exact .inr ⟨by simpa using h, k⟩
      · have := List.all_eq_true.1 h4 e he
        simp only [Bool.and_eq_true] at this
        obtain ⟨x, hx, h⟩ := Array.any_eq_true'.1 this.2
        simp only [Bool.and_eq_true, beq_iff_eq] at h
        exact ⟨by simpa using this.1, x, hx, h.1, h.2⟩
      · intro hne
        have h6 : _ = true := (Bool.or_eq_true _ _ ▸ h6).resolve_left (by simpa using hne)
        obtain ⟨j, hj, h⟩ := List.any_eq_true.1 h6
        simp only [Bool.and_eq_true, decide_eq_true_eq, Bool.or_eq_true, beq_iff_eq] at h
        obtain ⟨⟨q1, q2⟩, q3⟩ := h
        cases hoj : l[j]? with
        | none => simp [hoj] at q3
        | some oj =>
          simp only [hoj] at q3
          obtain ⟨x, hx, h⟩ := Array.any_eq_true'.1 q3
          simp only [Bool.and_eq_true, beq_iff_eq] at h
          exact ⟨j, oj, q1, q2.imp (fun h => by simpa using h) id, hoj, x, hx, h.1, h.2⟩
  intro n
  induction n with
  | zero =>
    intro x hn hout _
    have hall : ∀ p ∈ A, ∃ u, x p.1 = some u := fun p hp => by
      have h0 := List.eq_nil_of_length_eq_zero hn
      rw [List.filter_eq_nil_iff] at h0
      have := h0 p.1 (List.mem_map.2 ⟨p, hp, rfl⟩)
      cases hx : x p.1 with
      | none => simp [hx] at this
      | some u => exact ⟨u, rfl⟩
    refine ⟨?_, hF x hall hout⟩
    apply Array.ext_getElem?
    intro j
    rw [listX_get, listedBy_get (A.map (·.1)), any_mem]
    congr 1
    funext c
    congr 1
    cases hc : (A.map (·.1)).contains j with
    | false => rfl
    | true =>
      obtain ⟨p, hp, rfl⟩ := List.mem_map.1 (by simpa using hc : j ∈ A.map (·.1))
      obtain ⟨u, hu⟩ := hall p hp
      simp [hu]
  | succ n ih =>
    intro x hn hout hdown
    have hget : ∀ j, j < l.length → (listX A x (listedBy is (Array.replicate l.length false)))[j]? = some (is.contains j || ((A.map (·.1)).contains j && (x j).isSome)) := fun j hj => by
      rw [listX_get, listedBy_get, any_mem]; simp [hj]
    have hin : ∀ j, (listX A x (listedBy is (Array.replicate l.length false))).getD j false = true → j ∈ is ∨ (j ∈ A.map (·.1) ∧ ∃ u, x j = some u) := fun j h => by
      rw [getD_opt] at h
      rcases Nat.lt_or_ge j l.length with hj | hj
      · rw [hget j hj] at h
        simp only [Option.getD_some, Bool.or_eq_true, Bool.and_eq_true] at h
        rcases h with h | ⟨h, k⟩
        · exact .inl (by simpa using h)
        · exact .inr ⟨by simpa using h, Option.isSome_iff_exists.1 k⟩
      · rw [listX_get, listedBy_get] at h; simp [hj] at h
    have hin' : ∀ j, j < l.length → (j ∈ is ∨ (j ∈ A.map (·.1) ∧ ∃ u, x j = some u)) → (listX A x (listedBy is (Array.replicate l.length false))).getD j false = true := fun j hj h => by
      rw [getD_opt, hget j hj]
      rcases h with h | ⟨h, u, k⟩
      · have : is.contains j = true := by simpa using h
        rw [this]; rfl
      · have : (A.map (·.1)).contains j = true := by simpa using h
        rw [this, k]; simp
    have hex : ∃ p ∈ A, x p.1 = none := by
      have hne : ((A.map (·.1)).filter (fun i => (x i).isNone)) ≠ [] := fun h => by rw [h] at hn; cases hn
      obtain ⟨i, hi⟩ := List.exists_mem_of_ne_nil _ hne
      obtain ⟨h1, h2⟩ := List.mem_filter.1 hi
      obtain ⟨p, hp, rfl⟩ := List.mem_map.1 h1
      exact ⟨p, hp, by simpa using h2⟩
    have hltp : ∀ p ∈ A, p.1 < l.length := fun p hp => by
      obtain ⟨o, ho, _⟩ := hop p hp
      exact (List.getElem?_eq_some_iff.1 ho).1
    have hready : ∀ (m : Nat) p, p ∈ A → x p.1 = none → p.1 ≤ m → ∃ i, i ∈ Region.ready md l.toArray (listX A x (listedBy is (Array.replicate l.length false))) := by
      intro m
      induction m with
      | zero =>
        intro p hp hx hle
        obtain ⟨o, ho, hg, hdst, haf, hnd, hnis, _⟩ := hop p hp
        refine ⟨p.1, mem_ready.2 ⟨?_, o, by simpa using ho, fun e he hb => ?_⟩⟩
        · rw [getD_opt, hget _ (hltp p hp), hx]
          have : is.contains p.1 = false := by simpa using hnis
          rw [this]; simp
        · rcases haf e he hb with ⟨h, k⟩ | ⟨h, k⟩
          · exact hin' _ k (.inl h)
          · omega
      | succ m ihm =>
        intro p hp hx hle
        obtain ⟨o, ho, hg, hdst, haf, hnd, hnis, _⟩ := hop p hp
        by_cases hall : ∀ e ∈ o.after, Region.binds md e = true → e.on ∈ A.map (·.1) → ∃ u, x e.on = some u
        · refine ⟨p.1, mem_ready.2 ⟨?_, o, by simpa using ho, fun e he hb => ?_⟩⟩
          · rw [getD_opt, hget _ (hltp p hp), hx]
            have : is.contains p.1 = false := by simpa using hnis
            rw [this]; simp
          · rcases haf e he hb with ⟨h, k⟩ | ⟨h, k⟩
            · exact hin' _ k (.inl h)
            · obtain ⟨q, hq, e1⟩ := List.mem_map.1 h
              exact hin' _ (by rw [← e1]; exact hltp q hq) (.inr ⟨h, hall e he hb h⟩)
        · obtain ⟨e, he⟩ := Classical.not_forall.1 hall
          obtain ⟨h1, he⟩ := Classical.not_imp.1 he
          obtain ⟨hb, he⟩ := Classical.not_imp.1 he
          obtain ⟨hm, hx'⟩ := Classical.not_imp.1 he
          rcases haf e h1 hb with ⟨h, -⟩ | ⟨h, k⟩
          · exfalso
            obtain ⟨q, hq, e1⟩ := List.mem_map.1 hm
            obtain ⟨_, _, _, _, _, _, hq', _⟩ := hop q hq
            exact hq' (e1 ▸ h)
          · obtain ⟨q, hq, e1⟩ := List.mem_map.1 h
            refine ihm q hq ?_ (by omega)
            rw [e1]
            cases hh : x e.on with
            | none => rfl
            | some u => exact absurd ⟨u, hh⟩ hx'
    obtain ⟨p0, hp0, hx0⟩ := hex
    obtain ⟨i0, hi0⟩ := hready p0.1 p0 hp0 hx0 (Nat.le_refl _)
    refine ⟨(fun h => by rw [h] at hi0; cases hi0), fun i hi => ?_⟩
    obtain ⟨r1, o, ho, r2⟩ := mem_ready.1 hi
    have hil : i < l.length := by have := (Array.getElem?_eq_some_iff.1 ho).1; simpa using this
    rw [getD_opt, hget i hil] at r1
    simp only [Option.getD_some, Bool.or_eq_false_iff] at r1
    obtain ⟨r3, r4⟩ := r1
    have hmem : i ∈ A.map (·.1) := by
      have h5 := List.all_eq_true.1 ok5 i (by simpa using hil)
      simp only [Bool.or_eq_true] at h5
      rcases h5 with (h | h) | h
      · rw [r3] at h; cases h
      · simpa using h
      ·
        exfalso
        have hij : i ∈ js := by simpa using h
        cases js with
        | nil => cases hij
        | cons j0 js' =>
          have hnotjs : ∀ j ∈ j0 :: js', (listX A x (listedBy is (Array.replicate l.length false))).getD j false = true → False := fun j hj h => by
            have h6 := List.all_eq_true.1 ok6 j hj
            simp only [Bool.and_eq_true, Bool.not_eq_true'] at h6
            rcases hin j h with k | ⟨k, _⟩
            · have : is.contains j = true := by simpa using k
              rw [h6.1] at this; cases this
            · have : (A.map (·.1)).contains j = true := by simpa using k
              rw [h6.2] at this; cases this
          by_cases hhead : i = j0
          · subst hhead
            have hgr : ∀ (m : Nat) p, p ∈ A → x p.1 = none → l.length ≤ p.1 + m → False := by
              intro m
              induction m with
              | zero => intro p hp _ hle; have := hltp p hp; omega
              | succ m ihm =>
                intro p hp hx hle
                obtain ⟨_, _, _, _, _, _, _, hw⟩ := hop p hp
                obtain ⟨j, oj, hlt, hj, hoj, e, he, hb, hon⟩ := hw (by simp)
                rcases hj with hj | hj
                · obtain ⟨q, hq, rfl⟩ := List.mem_map.1 hj
                  cases hxq : x q.1 with
                  | none => exact ihm q hq hxq (by omega)
                  | some u =>
                    obtain ⟨u', hu'⟩ := hdown q hq ⟨u, hxq⟩ oj hoj e he hb (by rw [hon]; exact List.mem_map.2 ⟨p, hp, rfl⟩)
                    rw [hon, hx] at hu'; cases hu'
                · simp at hj
                  subst hj
                  have ho' : l[i]? = some o := by simpa using ho
                  rw [ho'] at hoj
                  cases hoj
                  rcases hin _ (r2 e he hb) with k | ⟨_, u, k⟩
                  · rw [hon] at k
                    obtain ⟨_, _, _, _, _, _, hq', _⟩ := hop p hp
                    exact hq' k
                  · rw [hon, hx] at k; cases k
            exact hgr l.length p0 hp0 hx0 (by omega)
          · have hit : i ∈ js' := by
              rcases List.mem_cons.1 hij with e | e
              · exact absurd e hhead
              · exact e
            have h4 := List.all_eq_true.1 ok4 i hit
            simp only [ho] at h4
            obtain ⟨e, he, h⟩ := Array.any_eq_true'.1 h4
            simp only [Bool.and_eq_true] at h
            exact hnotjs e.on (by simpa using h.2) (r2 e he h.1)
    obtain ⟨p, hp, rfl⟩ := List.mem_map.1 hmem
    obtain ⟨o', ho', hg, hdst, haf, hnd, hnis, _⟩ := hop p hp
    obtain rfl : o' = o := by
      have : l[p.1]? = some o := by simpa using ho
      rw [this] at ho'; exact (Option.some.inj ho').symm
    have hx : x p.1 = none := by
      have : (A.map (·.1)).contains p.1 = true := by simpa using hmem
      rw [this] at r4
      simpa using r4
    refine ⟨o', ho, .inl ⟨fun w hw => ⟨?_, ?_⟩, fun u => ?_⟩⟩
    · simp [Region.wanted, hg]
    · refine acts_get A (fun q hq => by obtain ⟨o, h, _⟩ := hop q hq; exact ⟨o, h⟩) hA p hp o' ho' x _ w hx (fun e he => ?_) (putX_reads ok3 hsz) hw
      obtain ⟨hN, z, hz, hb, rfl⟩ := hnd e he
      rcases hin _ (r2 z hz hb) with k | ⟨_, k⟩
      · exfalso
        obtain ⟨q, hq, e1⟩ := List.mem_map.1 hN
        obtain ⟨_, _, _, _, _, _, hq', _⟩ := hop q hq
        exact hq' (e1 ▸ k)
      · exact k
    · rw [listX_set hmem, hdst, putX_put ok2 ok3 hp]
      refine ih (setX x p.1 u) ?_ (fun i hi => ?_) (fun q hq hs o ho e he hb hm => ?_)
      · have := filter_one ok2 hmem hx u
        omega
      · have : i ≠ p.1 := fun e => hi (e ▸ hmem)
        rw [setX_ne _ this]; exact hout i hi
      · by_cases e1 : e.on = p.1
        · rw [e1]; exact ⟨u, setX_self _ _ _⟩
        · rw [setX_ne _ e1]
          by_cases e2 : q.1 = p.1
          · rw [e2] at ho
            have : o = o' := by rw [ho'] at ho; exact (Option.some.inj ho).symm
            subst this
            rcases hin _ (r2 e he hb) with k | ⟨_, k⟩
            · exfalso
              obtain ⟨q', hq', e3⟩ := List.mem_map.1 hm
              obtain ⟨_, _, _, _, _, _, hq2, _⟩ := hop q' hq'
              exact hq2 (e3 ▸ k)
            · exact k
          · rw [setX_ne _ e2] at hs
            exact hdown q hq hs o ho e he hb hm
theorem putX_all {A : List Acting} (hn : (A.map (·.1)).Nodup) (hd : (A.filterMap (·.2.1)).Nodup) {a : Act} (U : Nat → Value) : ∀ (B : List Acting), (∀ p ∈ B, p ∈ A) → ∀ x, B.foldl (fun a p => a.put p.2.1 (U p.1)) (putX A x a) = putX A (B.foldl (fun x p => setX x p.1 (U p.1)) x) a := by
  intro B
  induction B with
  | nil => intro _ x; rfl
  | cons p B ih =>
    intro h x
    rw [List.foldl_cons, List.foldl_cons, putX_put hn hd (h p (by simp)), ih (fun q hq => h q (List.mem_cons_of_mem _ hq))]
theorem foldX_get (U : Nat → Value) : ∀ (B : List Acting) (x : Ans) (i : Nat), (B.foldl (fun x p => setX x p.1 (U p.1)) x) i = if i ∈ B.map (·.1) then some (U i) else x i := by
  intro B
  induction B with
  | nil => intro x i; simp
  | cons p B ih =>
    intro x i
    rw [List.foldl_cons, ih]
    by_cases e : i = p.1
    · subst e; simp [setX_self]
    · by_cases h : i ∈ B.map (·.1)
      · rw [if_pos h, if_pos (by simp only [List.map_cons]; exact List.mem_cons_of_mem _ h)]
      · rw [if_neg h, if_neg (by simp only [List.map_cons, List.mem_cons, not_or]; exact ⟨e, h⟩), setX_ne _ e]
theorem region_detA {id : Nat} {l : List Oper} {a : Act} {w : World} (is : List Nat) (A : List Acting) (js : List Nat) (T : Ans → World → Prop) (hm : P.follows .mixedOrders = true) (hp : planA .any l.toArray is A js = true) (hT : T (fun _ => none) w.drew)
    (h : DetLA P l.toArray T (fun a => (∀ p ∈ A, ∀ s, p.2.1 = some s → s < a.tmps.size) ∧ ActsH P T A a A (pickL l (A.map (·.1))) ∧
      ∀ (U : Nat → Value) w', T (A.foldl (fun x p => setX x p.1 (U p.1)) (fun _ => none)) w' → wpList P l.toArray Q (pickL l js) (A.foldl (fun a p => a.put p.2.1 (U p.1)) a) w') (pickL l is) a) : (Code.region id l.toArray true).wp P Q a w := by
  refine wp_region_any hm ?_
  simp only [planA, Bool.and_eq_true, beq_iff_eq, List.size_toArray] at hp
  obtain ⟨⟨⟨⟨⟨p1, p2⟩, p3⟩, p6⟩, p5⟩, p4⟩ := hp
  have hst : listedBy (is ++ A.map (·.1)) (Array.replicate l.length false) = listedBy (A.map (·.1)) (listedBy is (Array.replicate l.length false)) := by simp [listedBy]
  have p5' := p5
  unfold actsOk at p5'
  simp only [Bool.and_eq_true, decide_eq_true_eq] at p5'
  obtain ⟨⟨⟨⟨⟨_, ok2⟩, ok3⟩, _⟩, _⟩, _⟩ := p5'
  have hd : DetA P .any l.toArray T (listedBy (is ++ A.map (·.1)) (Array.replicate l.length false)) (fun x a => ∀ w', T x w' → wpList P l.toArray Q (pickL l js) a w') (A.length + is.length) (fun _ => none) (Array.replicate l.length false) a := by
    refine det_planA p1 p6 is _ a (shut_start _) (fun i hi => List.mem_append_left _ hi) p3 ?_
    have : ∀ (L : List Oper) (a : Act), DetLA P l.toArray T (fun a => (∀ p ∈ A, ∀ s, p.2.1 = some s → s < a.tmps.size) ∧ ActsH P T A a A (pickL l (A.map (·.1))) ∧
        ∀ (U : Nat → Value) w', T (A.foldl (fun x p => setX x p.1 (U p.1)) (fun _ => none)) w' → wpList P l.toArray Q (pickL l js) (A.foldl (fun a p => a.put p.2.1 (U p.1)) a) w') L a →
        DetLA P l.toArray T (fun a => DetA P .any l.toArray T (listedBy (is ++ A.map (·.1)) (Array.replicate l.length false)) (fun x a => ∀ w', T x w' → wpList P l.toArray Q (pickL l js) a w') A.length (fun _ => none) (listedBy is (Array.replicate l.length false)) a) L a := by
      intro L
      induction L with
      | nil =>
        rintro a ⟨hsz, hA, hQ⟩
        have hr := acts_run (md := .any) (T := T) (F := fun x a => ∀ w', T x w' → wpList P l.toArray Q (pickL l js) a w') p5 hsz hA (fun x h1 h2 w' hw => ?_) A.length (fun _ => none) ?_ (fun _ _ => rfl) (fun p _ ⟨u, hu⟩ => by cases hu)
        · rw [putX_none] at hr
          have e : listX A (fun _ => none) (listedBy is (Array.replicate l.length false)) = listedBy is (Array.replicate l.length false) := by
            apply Array.ext_getElem?
            intro j
            rw [listX_get]
            simp
          rw [e, ← hst] at hr
          exact hr
        · have hx : A.foldl (fun y p => setX y p.1 ((fun i => (x i).getD undef) p.1)) (fun _ => none) = x := by
            funext i
            rw [foldX_get (fun i => (x i).getD undef)]
            by_cases hi : i ∈ A.map (·.1)
            · rw [if_pos hi]
              obtain ⟨p, hp, rfl⟩ := List.mem_map.1 hi
              obtain ⟨u, hu⟩ := h1 p hp
              rw [hu]; rfl
            · rw [if_neg hi, h2 i hi]
          have := hQ (fun i => (x i).getD undef) w' (by rw [hx]; exact hw)
          have hpa := putX_all ok2 ok3 (a := a) (fun i => (x i).getD undef) A (fun _ h => h) (fun _ => none)
          rw [putX_none, hx] at hpa
          rw [← hpa]
          exact this
        · have : ∀ L : List Nat, (L.filter (fun i => ((fun _ => none : Ans) i).isNone)).length = L.length := fun L => by induction L with
            | nil => rfl
            | cons y L ih => exact congrArg (· + 1) ih
          rw [this, List.length_map]
      | cons o L ih => intro a ⟨v, h1, h2⟩; exact ⟨v, h1, ih _ h2⟩
    exact this _ _ h
  have := DetA.sound (Q := Q) (k := js.length) (fun x a w hF hw => chain_wp js _ a w p4 (hF w hw)) _ (fun _ => none) _ a w.drew hd hT
  rw [show js.length + (A.length + is.length) = l.toArray.size by simp; omega] at this
  simpa using this
end
end Go.Proofs.YtojgmfhkiboeoaaDoor
