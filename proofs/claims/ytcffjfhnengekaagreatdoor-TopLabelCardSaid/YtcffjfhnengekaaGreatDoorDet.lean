/- A region that draws its order, all of whose operations answer the same whatever comes ahead of them: it is walked once, in the order of the text. -/
import Derived.WalkKit
import Derived.OrdersHeld
namespace Go.Proofs.YtcffjfhnengekaaGreatDoor
section
variable {P : Program} {ops : Array Oper} {Q : Exit → Act → World → Prop} {md : Region.Mode} {S : World → Prop}

/-- how one operation ends -/
def Wends (P : Program) (R : Value → World → Prop) : Result Next → Prop
  | .ok (.value v) w' => R v w'
  | .ok .skip w' => R undef w'
  | .ok (.enter f args) w' => Calls P f args w' fun e w'' => ∃ v, e = .returned v ∧ R v w''
  | _ => False

theorem Wends.upon {R : Value → World → Prop} {r : Result Next} (h : Wends P R r) {o : Oper} {a : Act} {next : Act → World → Prop} (hn : ∀ v w', R v w' → next (a.put o.dst v) w') : o.upon P a next Q r := by
  cases r with
  | ok n w' =>
    cases n <;> simp only [Wends, Oper.upon] at h ⊢
    case value u => exact hn _ _ h
    case skip => exact hn _ _ h
    case enter f args =>
      refine Calls.mono h fun e w'' he => ?_
      obtain ⟨v, rfl, hv⟩ := he
      exact hn _ _ hv
  | halt x w' => simp only [Wends] at h

/-- in state a, in every world that meets S, operation o leaves v, and S -/
def Says (P : Program) (ops : Array Oper) (S : World → Prop) (o : Oper) (v : Value) (a : Act) : Prop :=
  (Region.wanted o (yielded ops a.tmps) = true ∧ ∀ w, S w → Wends P (fun u w' => u = v ∧ S w') ((execOp a.eval o).run P w)) ∨
  (Region.wanted o (yielded ops a.tmps) = false ∧ v = undef)

theorem Says.of_same {o : Oper} {v : Value} {a a' : Act} (hy : Says P ops S o v a) (he : execOp a'.eval o = execOp a.eval o)
    (hw : Region.wanted o (yielded ops a'.tmps) = Region.wanted o (yielded ops a.tmps)) : Says P ops S o v a' := by
  unfold Says at *
  rw [he, hw]
  exact hy

theorem Says.wpOp {i : Nat} {o : Oper} {v : Value} {a : Act} (hi : ops[i]? = some o) (hy : Says P ops S o v a)
    {K : Act → World → Prop} {w : World} (hS : S w) (h : ∀ w', S w' → K (a.put o.dst v) w') : wpOp P ops Q i K a w := by
  unfold Go.wpOp
  simp only [hi]
  rcases hy with ⟨hw, hv⟩ | ⟨hw, rfl⟩
  · simp only [hw, if_true, Oper.wp]
    exact .inl ((hv w hS).upon (fun u w' hu => by obtain ⟨rfl, h'⟩ := hu; exact h w' h'))
  · simp only [hw, Bool.false_eq_true, if_false]; exact h w hS

/-- an operation whose answer is not known ahead, but what it leaves -/
def SaysN (P : Program) (ops : Array Oper) (T : Option Value → World → Prop) (o : Oper) (a : Act) : Prop :=
  Region.wanted o (yielded ops a.tmps) = true ∧ ∀ w, T none w → Wends P (fun u w' => T (some u) w') ((execOp a.eval o).run P w)
theorem SaysN.of_same {T : Option Value → World → Prop} {o : Oper} {a a' : Act} (hy : SaysN P ops T o a) (he : execOp a'.eval o = execOp a.eval o)
    (hw : Region.wanted o (yielded ops a'.tmps) = Region.wanted o (yielded ops a.tmps)) : SaysN P ops T o a' := by
  unfold SaysN at *
  rw [he, hw]
  exact hy
theorem SaysN.wpOp {T : Option Value → World → Prop} {i : Nat} {o : Oper} {a : Act} (hi : ops[i]? = some o) (hy : SaysN P ops T o a)
    {K : Act → World → Prop} {w : World} (hS : T none w) (h : ∀ u w', T (some u) w' → K (a.put o.dst u) w') : wpOp P ops Q i K a w := by
  unfold Go.wpOp
  simp only [hi]
  simp only [hy.1, if_true, Oper.wp]
  exact .inl ((hy.2 w hS).upon (fun u w' hu => h u w' hu))
/-- whatever is picked from here on answers the same, but for operation d; it ends where 'stop' has come up, in a state of which F is true -/
def Det (P : Program) (md : Region.Mode) (ops : Array Oper) (T : Option Value → World → Prop) (d : Nat) (stop : Array Bool) (F : Option Value → Act → Prop) : Nat → Option Value → Array Bool → Act → Prop
  | 0, x, listed, a => listed = stop ∧ F x a
  | n + 1, x, listed, a => Region.ready md ops listed ≠ [] ∧ ∀ i ∈ Region.ready md ops listed, ∃ o, ops[i]? = some o ∧
      ((i = d ∧ x = none ∧ SaysN P ops T o a ∧ ∀ u, Det P md ops T d stop F n (some u) (listed.setIfInBounds i true) (a.put o.dst u)) ∨
       ∃ v, (∀ y, Says P ops (T y) o v a) ∧ Det P md ops T d stop F n x (listed.setIfInBounds i true) (a.put o.dst v))

theorem Det.sound {T : Option Value → World → Prop} {d : Nat} {stop : Array Bool} {F : Option Value → Act → Prop} {k : Nat} (hF : ∀ x a w, F x a → T x w → wpAny P md ops Q k stop a w) :
    ∀ (n : Nat) (x : Option Value) (listed : Array Bool) (a : Act) (w : World), Det P md ops T d stop F n x listed a → T x w → wpAny P md ops Q (k + n) listed a w := by
  intro n
  induction n with
  | zero => rintro x listed a w ⟨rfl, h⟩ hS; exact hF x a w h hS
  | succ n ih =>
    rintro x listed a w ⟨hne, h⟩ hS
    refine ⟨fun h0 => absurd h0 hne, fun i hi => ?_⟩
    obtain ⟨o, ho, ⟨_, rfl, hy, hd⟩ | ⟨v, hy, hd⟩⟩ := h i hi
    · exact hy.wpOp ho hS (fun u w' hS' => ih _ _ _ w' (hd u) hS')
    · exact (hy x).wpOp ho hS (fun w' hS' => ih _ _ _ w' hd hS')

theorem Det.take {T : Option Value → World → Prop} {d : Nat} {stop : Array Bool} {F : Option Value → Act → Prop} {i : Nat} {oi : Oper} {v : Value} (hi : ops[i]? = some oi) (hsel : ∀ (j : Nat) (o : Oper) cs b, ops[j]? = some o → o.op ≠ .select cs b)
    (hl : ∀ listed : Array Bool, listed.setIfInBounds i true = stop → listed.getD i true = false → ∀ j, j ∈ Region.ready md ops listed → j = i) :
    ∀ (n : Nat) (x : Option Value) (listed : Array Bool) (a : Act),
      (∀ j oj, ops[j]? = some oj → j ≠ i → listed.getD j true = false → (∀ e ∈ oj.after, Region.binds md e = true → e.on ≠ i) → oi.apart ops oj = true) →
      i ∈ Region.ready md ops listed → (∀ y, Says P ops (T y) oi v a) →
      Det P md ops T d stop F n x (listed.setIfInBounds i true) (a.put oi.dst v) → Det P md ops T d stop F (n + 1) x listed a := by
  intro n
  induction n with
  | zero =>
    intro x listed a _ hr hy H
    refine ⟨(fun h => by rw [h] at hr; cases hr), fun j hj => ?_⟩
    obtain rfl := hl listed H.1 (mem_ready.1 hr).1 j hj
    exact ⟨oi, hi, .inr ⟨v, hy, H⟩⟩
  | succ n ih =>
    intro x listed a hfree hr hy H
    refine ⟨(fun h => by rw [h] at hr; cases hr), fun j hj => ?_⟩
    by_cases hji : j = i
    · subst hji; exact ⟨oi, hi, .inr ⟨v, hy, H⟩⟩
    · obtain ⟨oj', hoj', hcase⟩ := H.2 j (ready_mono hj hji)
      obtain ⟨hjun, oj, hoj, hall⟩ := mem_ready.1 hj
      obtain rfl : oj' = oj := by rw [hoj] at hoj'; exact (Option.some.inj hoj').symm
      have hnot : ∀ e ∈ oj'.after, Region.binds md e = true → e.on ≠ i := fun e he hb heq => by
        have h1 := hall e he hb
        have h0 := (mem_ready.1 hr).1
        rw [heq] at h1
        rcases Nat.lt_or_ge i listed.size with h' | h'
        · simp [h'] at h0 h1; rw [h0] at h1; cases h1
        · simp [Array.getElem?_eq_none h'] at h1
      obtain ⟨h1, h2, h3⟩ := Oper.apart_spec (hfree j oj' hoj hji hjun hnot)
      have hsi : ∀ cs b, oi.op ≠ .select cs b := fun cs b => hsel i oi cs b hi
      have hsj : ∀ cs b, oj'.op ≠ .select cs b := fun cs b => hsel j oj' cs b hoj
      have hyi' : ∀ u y, Says P ops (T y) oi v (a.put oj'.dst u) := fun u y => (hy y).of_same (execOp_put oi hsi a oj'.dst u h3) (wanted_put oi a oj'.dst u h3)
      have hfree' : ∀ k ok, ops[k]? = some ok → k ≠ i → (listed.setIfInBounds j true).getD k true = false →
          (∀ e ∈ ok.after, Region.binds md e = true → e.on ≠ i) → oi.apart ops ok = true := fun k ok hk hki hun hno => by
        refine hfree k ok hk hki ?_ hno
        by_cases hjk : j = k
        · subst hjk; exact hjun
        · rw [getD_set_ne true hjk] at hun; exact hun
      have hrest : ∀ x' u, Det P md ops T d stop F n x' ((listed.setIfInBounds i true).setIfInBounds j true) ((a.put oi.dst v).put oj'.dst u) → Det P md ops T d stop F (n + 1) x' (listed.setIfInBounds j true) (a.put oj'.dst u) := fun x' u hd => by
        refine ih x' (listed.setIfInBounds j true) _ hfree' (ready_mono hr (Ne.symm hji)) (hyi' u) ?_
        rw [Array.setIfInBounds_comm _ _ hji, ← Act.put_comm a v u h2]
        exact hd
      refine ⟨oj', hoj, ?_⟩
      rcases hcase with ⟨q1, q2, q3, q4⟩ | ⟨u, hyj, hd⟩
      · exact .inl ⟨q1, q2, q3.of_same (execOp_put oj' hsj a oi.dst v h1).symm (wanted_put oj' a oi.dst v h1).symm, fun u => hrest _ u (q4 u)⟩
      · exact .inr ⟨u, fun y => (hyj y).of_same (execOp_put oj' hsj a oi.dst v h1).symm (wanted_put oj' a oi.dst v h1).symm, hrest _ u hd⟩

/-- THE PLAN: these operations, one behind the other -/
def planGo (md : Region.Mode) (ops : Array Oper) (stop : Array Bool) : List Nat → Array Bool → Bool
  | [], _ => true
  | i :: is, listed => Region.free md ops listed i && (Region.ready md ops listed).contains i && (Region.ready md ops (stop.setIfInBounds i false) == [i]) && planGo md ops stop is (listed.setIfInBounds i true)
def chainGo (md : Region.Mode) (ops : Array Oper) : List Nat → Array Bool → Bool
  | [], listed => Region.ready md ops listed == []
  | j :: js, listed => (Region.ready md ops listed == [j]) && chainGo md ops js (listed.setIfInBounds j true)
def listedBy (is : List Nat) (b : Array Bool) : Array Bool := is.foldl (fun b i => b.setIfInBounds i true) b
/-- the first ones of the plan are picked in whatever order, then d (which may have come up before), then the rest in turn -/
def planD (md : Region.Mode) (ops : Array Oper) (is : List Nat) (d : Nat) (js : List Nat) : Bool :=
  let b := Array.replicate ops.size false
  Region.noSelect ops && (is.length + 1 + js.length == ops.size) && planGo md ops (listedBy (is ++ [d]) b) is b && (Region.ready md ops (listedBy is b) == [d]) && chainGo md ops js (listedBy (is ++ [d]) b)
def plan0 (md : Region.Mode) (ops : Array Oper) (is : List Nat) (js : List Nat) : Bool :=
  let b := Array.replicate ops.size false
  Region.noSelect ops && (is.length + js.length == ops.size) && planGo md ops (listedBy is b) is b && chainGo md ops js (listedBy is b)
def pickL (l : List Oper) (is : List Nat) : List Oper := is.filterMap (l[·]?)

/-- operations in the order of the plan; then F of the state -/
def DetL (P : Program) (ops : Array Oper) (T : Option Value → World → Prop) (F : Act → Prop) : List Oper → Act → Prop
  | [], a => F a
  | o :: l, a => ∃ v, (∀ y, Says P ops (T y) o v a) ∧ DetL P ops T F l (a.put o.dst v)
theorem DetL.cons {T : Option Value → World → Prop} {F : Act → Prop} {o : Oper} {l : List Oper} {a : Act} {v : Value} (h : ∀ y, Says P ops (T y) o v a) (k : DetL P ops T F l (a.put o.dst v)) : DetL P ops T F (o :: l) a := ⟨v, h, k⟩
theorem DetL.nil {T : Option Value → World → Prop} {F : Act → Prop} {a : Act} (h : F a) : DetL P ops T F [] a := h
theorem set_back {l s : Array Bool} {i : Nat} (h : l.setIfInBounds i true = s) (hf : l.getD i true = false) : l = s.setIfInBounds i false := by
  subst h
  apply Array.ext_getElem?
  intro j
  by_cases e : i = j
  · subst e
    rcases Nat.lt_or_ge i l.size with h | h
    · rw [Array.getElem?_setIfInBounds_self_of_lt (by simpa using h)]
      simp [h] at hf ⊢
      exact hf
    · simp [h]
  · rw [Array.getElem?_setIfInBounds_ne e, Array.getElem?_setIfInBounds_ne e]

theorem chain_wp {l : List Oper} : ∀ (js : List Nat) (listed : Array Bool) (a : Act) (w : World), chainGo md l.toArray js listed = true →
    wpList P l.toArray Q (pickL l js) a w → wpAny P md l.toArray Q js.length listed a w := by
  intro js
  induction js with
  | nil =>
    intro listed a w hc h
    have hc : Region.ready md l.toArray listed = [] := by simpa [chainGo] using hc
    exact ⟨hc, h⟩
  | cons j js ih =>
    intro listed a w hc h
    simp only [chainGo, Bool.and_eq_true, beq_iff_eq] at hc
    obtain ⟨hr, hc⟩ := hc
    refine ⟨(fun h0 => by rw [hr] at h0; cases h0), fun i hi => ?_⟩
    rw [hr] at hi
    obtain rfl : i = j := by simpa using hi
    obtain ⟨_, o, ho, _⟩ := mem_ready.1 (by rw [hr]; simp : i ∈ Region.ready md l.toArray listed)
    have hp : pickL l (i :: js) = o :: pickL l js := by
      have ho' : l[i]? = some o := by simpa using ho
      simp [pickL, ho']
    rw [hp] at h
    have hK : ∀ a w, wpList P l.toArray Q (pickL l js) a w → wpAny P md l.toArray Q js.length (listed.setIfInBounds i true) a w := fun a w h' => ih _ a w hc h'
    unfold Go.wpOp
    simp only [ho]
    unfold wpList at h
    split
    · rename_i hw
      rw [if_pos hw] at h
      exact h.imp (Oper.wp_mono hK) id
    · rename_i hw
      rw [if_neg hw] at h
      exact hK _ _ h
theorem det_plan {T : Option Value → World → Prop} {d : Nat} {stop : Array Bool} {l : List Oper} (hs : Region.noSelect l.toArray = true) {F : Option Value → Act → Prop} {x : Option Value} {m : Nat} : ∀ (is : List Nat) (listed : Array Bool) (a : Act), planGo md l.toArray stop is listed = true →
    DetL P l.toArray T (fun a => Det P md l.toArray T d stop F m x (listedBy is listed) a) (pickL l is) a → Det P md l.toArray T d stop F (m + is.length) x listed a := by
  intro is
  induction is with
  | nil => intro listed a _ h; exact h
  | cons i is ih =>
    intro listed a hp h
    simp only [planGo, Bool.and_eq_true, beq_iff_eq] at hp
    obtain ⟨⟨⟨q1, q2⟩, q3⟩, q4⟩ := hp
    have q2' : i ∈ Region.ready md l.toArray listed := by simpa using q2
    obtain ⟨_, o, ho, _⟩ := mem_ready.1 q2'
    have hpk : pickL l (i :: is) = o :: pickL l is := by
      have ho' : l[i]? = some o := by simpa using ho
      simp [pickL, ho']
    rw [hpk] at h
    obtain ⟨v, hy, hd⟩ := h
    refine Det.take ho (Region.noSelect_spec hs) ?_ (m + is.length) x listed a (Region.free_spec ho q1) q2' hy (ih _ _ q4 hd)
    intro listed' he hb y hyy
    rw [set_back he hb, q3] at hyy
    simpa using hyy
theorem listedBy_append (is js : List Nat) (b : Array Bool) : listedBy (is ++ js) b = listedBy js (listedBy is b) := by simp [listedBy]
/-- all answer the same -/
theorem region_det {id : Nat} {l : List Oper} {a : Act} {w : World} (is js : List Nat) (S : World → Prop) (hm : P.follows .mixedOrders = true) (hp : plan0 .any l.toArray is js = true) (hS : S w.drew)
    (h : DetL P l.toArray (fun _ => S) (fun a => ∀ w', S w' → wpList P l.toArray Q (pickL l js) a w') (pickL l is) a) : (Code.region id l.toArray true).wp P Q a w := by
  refine wp_region_any hm ?_
  simp only [plan0, Bool.and_eq_true, beq_iff_eq, List.size_toArray] at hp
  obtain ⟨⟨⟨p1, p2⟩, p3⟩, p4⟩ := hp
  have hd : Det P .any l.toArray (fun _ => S) l.length (listedBy is (Array.replicate l.length false)) (fun _ a => ∀ w', S w' → wpList P l.toArray Q (pickL l js) a w') (0 + is.length) none (Array.replicate l.length false) a := by
    refine det_plan p1 is _ a p3 ?_
    have : ∀ (L : List Oper) (a : Act), DetL P l.toArray (fun _ => S) (fun a => ∀ w', S w' → wpList P l.toArray Q (pickL l js) a w') L a →
        DetL P l.toArray (fun _ => S) (fun a => Det P .any l.toArray (fun _ => S) l.length (listedBy is (Array.replicate l.length false)) (fun _ a => ∀ w', S w' → wpList P l.toArray Q (pickL l js) a w') 0 none (listedBy is (Array.replicate l.length false)) a) L a := by
      intro L
      induction L with
      | nil => intro a h; exact ⟨rfl, h⟩
      | cons o L ih => intro a ⟨v, h1, h2⟩; exact ⟨v, h1, ih _ h2⟩
    exact this _ _ h
  have := Det.sound (Q := Q) (k := js.length) (fun x a w hF hw => chain_wp js _ a w p4 (hF w hw)) _ none _ a w.drew hd hS
  rw [show js.length + (0 + is.length) = l.toArray.size by simp; omega] at this
  simpa using this
/-- all answer the same but for d, of which alone is known what it leaves -/
theorem region_detN {id : Nat} {l : List Oper} {a : Act} {w : World} (is : List Nat) (d : Nat) (js : List Nat) (T : Option Value → World → Prop) (hm : P.follows .mixedOrders = true) (hp : planD .any l.toArray is d js = true) (hS : T none w.drew)
    (h : DetL P l.toArray T (fun a => ∃ o, pickL l [d] = [o] ∧ SaysN P l.toArray T o a ∧ ∀ u w', T (some u) w' → wpList P l.toArray Q (pickL l js) (a.put o.dst u) w') (pickL l is) a) : (Code.region id l.toArray true).wp P Q a w := by
  refine wp_region_any hm ?_
  simp only [planD, Bool.and_eq_true, beq_iff_eq, List.size_toArray] at hp
  obtain ⟨⟨⟨⟨p1, p2⟩, p3⟩, p5⟩, p4⟩ := hp
  have hd : Det P .any l.toArray T d (listedBy (is ++ [d]) (Array.replicate l.length false)) (fun x a => ∀ w', T x w' → wpList P l.toArray Q (pickL l js) a w') (1 + is.length) none (Array.replicate l.length false) a := by
    refine det_plan p1 is _ a p3 ?_
    have : ∀ (L : List Oper) (a : Act), DetL P l.toArray T (fun a => ∃ o, pickL l [d] = [o] ∧ SaysN P l.toArray T o a ∧ ∀ u w', T (some u) w' → wpList P l.toArray Q (pickL l js) (a.put o.dst u) w') L a →
        DetL P l.toArray T (fun a => Det P .any l.toArray T d (listedBy (is ++ [d]) (Array.replicate l.length false)) (fun x a => ∀ w', T x w' → wpList P l.toArray Q (pickL l js) a w') 1 none (listedBy is (Array.replicate l.length false)) a) L a := by
      intro L
      induction L with
      | nil =>
        rintro a ⟨o, ho, hy, hn⟩
        refine ⟨by rw [p5]; simp, fun i hi => ?_⟩
        rw [p5] at hi
        obtain rfl : i = d := by simpa using hi
        obtain ⟨_, o', ho', _⟩ := mem_ready.1 (by rw [p5]; simp : i ∈ Region.ready .any l.toArray (listedBy is (Array.replicate l.length false)))
        have ho2 : l[i]? = some o' := by simpa using ho'
        have he : o = o' := by
          have : pickL l [i] = [o'] := by simp [pickL, ho2]
          rw [ho] at this
          simpa using this
        subst he
        refine ⟨o, ho', .inl ⟨rfl, rfl, hy, fun u => ⟨?_, fun w' hw => hn u w' hw⟩⟩⟩
        rw [listedBy_append]; rfl
      | cons o L ih => intro a ⟨v, h1, h2⟩; exact ⟨v, h1, ih _ h2⟩
    exact this _ _ h
  have := Det.sound (Q := Q) (k := js.length) (fun x a w hF hw => chain_wp js _ a w p4 (hF w hw)) _ none _ a w.drew hd hS
  rw [show js.length + (1 + is.length) = l.toArray.size by simp; omega] at this
  simpa using this
/-- a plain operation -/
theorem Says.plain {o : Oper} {v : Value} {a : Act} (hw : Region.wanted o (yielded ops a.tmps) = true) (h : ∀ w, S w → (execOp a.eval o).run P w = .ok (.value v) w) : Says P ops S o v a :=
  .inl ⟨hw, fun w hS => by rw [h w hS]; exact ⟨rfl, hS⟩⟩
/-- a call -/
theorem Says.call {o : Oper} {v : Value} {a : Act} {f : FuncId} {args : Array Value} (hw : Region.wanted o (yielded ops a.tmps) = true) (hr : ∀ w, (execOp a.eval o).run P w = .ok (.enter f args) w)
    (h : ∀ w, S w → Calls P f args w (fun e w' => e = .returned v ∧ S w')) : Says P ops S o v a :=
  .inl ⟨hw, fun w hS => by rw [hr w]; exact Calls.mono (h w hS) fun e w'' ⟨he, hs⟩ => ⟨v, he, rfl, hs⟩⟩
/-- one whose guard is false -/
theorem Says.skip {o : Oper} {a : Act} (hw : Region.wanted o (yielded ops a.tmps) = false) : Says P ops S o undef a := .inr ⟨hw, rfl⟩
theorem SaysN.plain {T : Option Value → World → Prop} {o : Oper} {a : Act} (hw : Region.wanted o (yielded ops a.tmps) = true) (h : ∀ w, T none w → ∃ v w', (execOp a.eval o).run P w = .ok (.value v) w' ∧ T (some v) w') : SaysN P ops T o a :=
  ⟨hw, fun w hS => by obtain ⟨v, w', h1, h2⟩ := h w hS; rw [h1]; exact h2⟩
theorem SaysN.call {T : Option Value → World → Prop} {o : Oper} {a : Act} {f : FuncId} {args : Array Value} (hw : Region.wanted o (yielded ops a.tmps) = true) (hr : ∀ w, (execOp a.eval o).run P w = .ok (.enter f args) w)
    (h : ∀ w, T none w → Calls P f args w (fun e w' => ∃ v, e = .returned v ∧ T (some v) w')) : SaysN P ops T o a :=
  ⟨hw, fun w hS => by rw [hr w]; exact Calls.mono (h w hS) fun e w'' ⟨v, he, hs⟩ => ⟨v, he, hs⟩⟩
end
end Go.Proofs.YtcffjfhnengekaaGreatDoor
