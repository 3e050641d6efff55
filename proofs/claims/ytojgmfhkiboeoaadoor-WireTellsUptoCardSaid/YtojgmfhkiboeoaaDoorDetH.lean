/- A region that draws its order, some of whose operations make memory of their own, and may be guarded by what acting ones have answered. -/
import Derived.Test.YtojgmfhkiboeoaaDoorDetA
namespace Go.Proofs.YtojgmfhkiboeoaaDoor
section
variable {P : Program} {ops : Array Oper} {Q : Exit → Act → World → Prop} {md : Region.Mode}
def ActsW (P : Program) (ops : Array Oper) (T : Ans → World → Prop) (A : List Acting) (a : Act) : List Acting → List Oper → Prop
  | [], [] => True
  | p :: r, o :: os => (∀ x ρ w, x p.1 = none → (∀ e ∈ p.2.2, ∃ u, x e = some u) → Reads A a x ρ → T x w → Region.wanted o (yielded ops (putX A x a).tmps) = true ∧ Wends P (fun u w' => T (setX x p.1 u) w') ((execOp ρ o).run P w)) ∧ ActsW P ops T A a r os
  | _, _ => False
theorem acts_getW {T : Ans → World → Prop} {A : List Acting} {a : Act} {l : List Oper} : ∀ (B : List Acting), (∀ p ∈ B, ∃ o, l[p.1]? = some o) → ActsW P ops T A a B (pickL l (B.map (·.1))) → ∀ p ∈ B, ∀ o, l[p.1]? = some o →
    ∀ x ρ w, x p.1 = none → (∀ e ∈ p.2.2, ∃ u, x e = some u) → Reads A a x ρ → T x w → Region.wanted o (yielded ops (putX A x a).tmps) = true ∧ Wends P (fun u w' => T (setX x p.1 u) w') ((execOp ρ o).run P w) := by
  intro B
  induction B with
  | nil => intro _ _ p hp; cases hp
  | cons q B ih =>
    intro hB h p hp o ho
    obtain ⟨oq, hoq⟩ := hB q (by simp)
    have hpk : pickL l ((q :: B).map (·.1)) = oq :: pickL l (B.map (·.1)) := by simp [pickL, hoq]
    rw [hpk] at h
    obtain ⟨h1, h2⟩ := h
    rcases List.mem_cons.1 hp with e | e
    · subst e
      rw [hoq] at ho
      cases ho
      exact h1
    · exact ih (fun p hp => hB p (List.mem_cons_of_mem _ hp)) h2 p e o ho
theorem wanted_act {A : List Acting} {x : Ans} {a : Act} {o : Oper} {g s : Nat} {b : Bool} {v0 : Value} {es : List Nat} (hg : o.guard = some (g, b)) (hs : (ops[g]?).bind (·.dst) = some s) (hA : A.find? (fun p => p.2.1 == some s) = some (g, some s, es)) (hz : a.tmps[s]? = some v0) (hx : x g = some (.bool b)) : Region.wanted o (yielded ops (putX A x a).tmps) = true := by
  unfold Region.wanted
  rw [hg]
  simp only [yielded, hs, Option.bind_some]
  rw [putX_get, hz, hA]
  simp [hx]
def actsOkH (md : Region.Mode) (ops : Array Oper) (A : List Acting) (is js : List Nat) : Bool :=
  let N := A.map (·.1)
  (A.all fun p => match ops[p.1]? with
    | none => false
    | some o => true && o.dst == p.2.1 && (o.after.all fun x => !Region.binds md x || (is.contains x.on && decide (x.on < ops.size)) || (N.contains x.on && decide (x.on < p.1))) && (p.2.2.all fun e => N.contains e && o.after.any fun x => Region.binds md x && x.on == e) && !is.contains p.1 &&
        (js.isEmpty || (List.range ops.size).any fun j => decide (p.1 < j) && (N.contains j || js.head? == some j) && match ops[j]? with | some oj => oj.after.any (fun x => Region.binds md x && x.on == p.1) | none => false)) &&
  decide N.Nodup && decide ((A.filterMap (·.2.1)).Nodup) &&
  (js.tail.all fun j => match ops[j]? with | some oj => oj.after.any (fun x => Region.binds md x && js.contains x.on) | none => false) &&
  ((List.range ops.size).all fun j => is.contains j || N.contains j || js.contains j) && (js.all fun j => !is.contains j && !N.contains j)
def planH (md : Region.Mode) (ops : Array Oper) (is : List Nat) (A : List Acting) (js : List Nat) : Bool :=
  let b := Array.replicate ops.size false
  let pre := is ++ A.map (·.1)
  Region.noSelect ops && (is.length + A.length + js.length == ops.size) && planGoA md ops is b && lateOk md ops pre js && actsOkH md ops A is js && chainGo md ops js (listedBy pre b)
theorem acts_runH {T : Ans → World → Prop} {l : List Oper} {A : List Acting} {is js : List Nat} (hok : actsOkH md l.toArray A is js = true) {a : Act} (hsz : ∀ p ∈ A, ∀ s, p.2.1 = some s → s < a.tmps.size)
    (hA : ActsW P l.toArray T A a A (pickL l (A.map (·.1)))) {F : Ans → Act → Prop} (hF : ∀ x, (∀ p ∈ A, ∃ u, x p.1 = some u) → (∀ i, i ∉ A.map (·.1) → x i = none) → F x (putX A x a)) :
    ∀ (n : Nat) (x : Ans), ((A.map (·.1)).filter (fun i => (x i).isNone)).length = n → (∀ i, i ∉ A.map (·.1) → x i = none) →
      (∀ p ∈ A, (∃ u, x p.1 = some u) → ∀ o, l[p.1]? = some o → ∀ e ∈ o.after, Region.binds md e = true → e.on ∈ A.map (·.1) → ∃ u, x e.on = some u) →
      DetA P md l.toArray T (listedBy (A.map (·.1)) (listedBy is (Array.replicate l.length false))) F n x (listX A x (listedBy is (Array.replicate l.length false))) (putX A x a) := by
  unfold actsOkH at hok
  simp only [Bool.and_eq_true, decide_eq_true_eq] at hok
  obtain ⟨⟨⟨⟨⟨ok1, ok2⟩, ok3⟩, ok4⟩, ok5⟩, ok6⟩ := hok
  have hop : ∀ p ∈ A, ∃ o, l[p.1]? = some o ∧ True ∧ o.dst = p.2.1 ∧ (∀ e ∈ o.after, Region.binds md e = true → (e.on ∈ is ∧ e.on < l.length) ∨ (e.on ∈ A.map (·.1) ∧ e.on < p.1)) ∧ (∀ e ∈ p.2.2, e ∈ A.map (·.1) ∧ ∃ x ∈ o.after, Region.binds md x = true ∧ x.on = e) ∧ p.1 ∉ is ∧
      (js ≠ [] → ∃ j oj, p.1 < j ∧ (j ∈ A.map (·.1) ∨ js.head? = some j) ∧ l[j]? = some oj ∧ ∃ x ∈ oj.after, Region.binds md x = true ∧ x.on = p.1) := by
    intro p hp
    have h := List.all_eq_true.1 ok1 p hp
    cases ho : l[p.1]? with
    | none => simp [ho] at h
    | some o =>
      simp only [List.getElem?_toArray, ho, Bool.and_eq_true] at h
      obtain ⟨⟨⟨⟨⟨h1, h2⟩, h3⟩, h4⟩, h5⟩, h6⟩ := h
      refine ⟨o, rfl, trivial, by simpa using h2, fun e he hb => ?_, fun e he => ?_, by simpa using h5, ?_⟩
      · have := Array.all_eq_true_iff_forall_mem.1 h3 e he
        simp only [hb, Bool.not_true, Bool.false_or, Bool.or_eq_true, Bool.and_eq_true, decide_eq_true_eq] at this
        rcases this with ⟨h, k⟩ | ⟨h, k⟩
        · exact .inl ⟨by simpa using h, by simpa using k⟩
        · exact .inr ⟨by simpa using h, k⟩
      · have := List.all_eq_true.1 h4 e he
        simp only [Bool.and_eq_true] at this
        obtain ⟨x, hx, h⟩ := Array.any_eq_true'.1 this.2
        simp only [Bool.and_eq_true, beq_iff_eq] at h
        exact ⟨by simpa using this.1, x, hx, h.1, h.2⟩
      · intro hne
        have h6 : _ = true := (Bool.or_eq_true _ _ ▸ h6).resolve_left (by simpa using hne)
        obtain ⟨j, hj, h⟩ := List.any_eq_true.1 h6
        simp only [Bool.and_eq_true, decide_eq_true_eq, Bool.or_eq_true, beq_iff_eq] at h
        obtain ⟨⟨q1, q2⟩, q3⟩ := h
        cases hoj : l[j]? with
        | none => simp [hoj] at q3
        | some oj =>
          simp only [hoj] at q3
          obtain ⟨x, hx, h⟩ := Array.any_eq_true'.1 q3
          simp only [Bool.and_eq_true, beq_iff_eq] at h
          exact ⟨j, oj, q1, q2.imp (fun h => by simpa using h) id, hoj, x, hx, h.1, h.2⟩
  intro n
  induction n with
  | zero =>
    intro x hn hout _
    have hall : ∀ p ∈ A, ∃ u, x p.1 = some u := fun p hp => by
      have h0 := List.eq_nil_of_length_eq_zero hn
      rw [List.filter_eq_nil_iff] at h0
      have := h0 p.1 (List.mem_map.2 ⟨p, hp, rfl⟩)
      cases hx : x p.1 with
      | none => simp [hx] at this
      | some u => exact ⟨u, rfl⟩
    refine ⟨?_, hF x hall hout⟩
    apply Array.ext_getElem?
    intro j
    rw [listX_get, listedBy_get (A.map (·.1)), any_mem]
    congr 1
    funext c
    congr 1
    cases hc : (A.map (·.1)).contains j with
    | false => rfl
    | true =>
      obtain ⟨p, hp, rfl⟩ := List.mem_map.1 (by simpa using hc : j ∈ A.map (·.1))
      obtain ⟨u, hu⟩ := hall p hp
      simp [hu]
  | succ n ih =>
    intro x hn hout hdown
    have hget : ∀ j, j < l.length → (listX A x (listedBy is (Array.replicate l.length false)))[j]? = some (is.contains j || ((A.map (·.1)).contains j && (x j).isSome)) := fun j hj => by
      rw [listX_get, listedBy_get, any_mem]; simp [hj]
    have hin : ∀ j, (listX A x (listedBy is (Array.replicate l.length false))).getD j false = true → j ∈ is ∨ (j ∈ A.map (·.1) ∧ ∃ u, x j = some u) := fun j h => by
      rw [getD_opt] at h
      rcases Nat.lt_or_ge j l.length with hj | hj
      · rw [hget j hj] at h
        simp only [Option.getD_some, Bool.or_eq_true, Bool.and_eq_true] at h
        rcases h with h | ⟨h, k⟩
        · exact .inl (by simpa using h)
        · exact .inr ⟨by simpa using h, Option.isSome_iff_exists.1 k⟩
      · rw [listX_get, listedBy_get] at h; simp [hj] at h
    have hin' : ∀ j, j < l.length → (j ∈ is ∨ (j ∈ A.map (·.1) ∧ ∃ u, x j = some u)) → (listX A x (listedBy is (Array.replicate l.length false))).getD j false = true := fun j hj h => by
      rw [getD_opt, hget j hj]
      rcases h with h | ⟨h, u, k⟩
      · have : is.contains j = true := by simpa using h
        rw [this]; rfl
      · have : (A.map (·.1)).contains j = true := by simpa using h
        rw [this, k]; simp
    have hex : ∃ p ∈ A, x p.1 = none := by
      have hne : ((A.map (·.1)).filter (fun i => (x i).isNone)) ≠ [] := fun h => by rw [h] at hn; cases hn
      obtain ⟨i, hi⟩ := List.exists_mem_of_ne_nil _ hne
      obtain ⟨h1, h2⟩ := List.mem_filter.1 hi
      obtain ⟨p, hp, rfl⟩ := List.mem_map.1 h1
      exact ⟨p, hp, by simpa using h2⟩
    have hltp : ∀ p ∈ A, p.1 < l.length := fun p hp => by
      obtain ⟨o, ho, _⟩ := hop p hp
      exact (List.getElem?_eq_some_iff.1 ho).1
    have hready : ∀ (m : Nat) p, p ∈ A → x p.1 = none → p.1 ≤ m → ∃ i, i ∈ Region.ready md l.toArray (listX A x (listedBy is (Array.replicate l.length false))) := by
      intro m
      induction m with
      | zero =>
        intro p hp hx hle
        obtain ⟨o, ho, hg, hdst, haf, hnd, hnis, _⟩ := hop p hp
        refine ⟨p.1, mem_ready.2 ⟨?_, o, by simpa using ho, fun e he hb => ?_⟩⟩
        · rw [getD_opt, hget _ (hltp p hp), hx]
          have : is.contains p.1 = false := by simpa using hnis
          rw [this]; simp
        · rcases haf e he hb with ⟨h, k⟩ | ⟨h, k⟩
          · exact hin' _ k (.inl h)
          · omega
      | succ m ihm =>
        intro p hp hx hle
        obtain ⟨o, ho, hg, hdst, haf, hnd, hnis, _⟩ := hop p hp
        by_cases hall : ∀ e ∈ o.after, Region.binds md e = true → e.on ∈ A.map (·.1) → ∃ u, x e.on = some u
        · refine ⟨p.1, mem_ready.2 ⟨?_, o, by simpa using ho, fun e he hb => ?_⟩⟩
          · rw [getD_opt, hget _ (hltp p hp), hx]
            have : is.contains p.1 = false := by simpa using hnis
            rw [this]; simp
          · rcases haf e he hb with ⟨h, k⟩ | ⟨h, k⟩
            · exact hin' _ k (.inl h)
            · obtain ⟨q, hq, e1⟩ := List.mem_map.1 h
              exact hin' _ (by rw [← e1]; exact hltp q hq) (.inr ⟨h, hall e he hb h⟩)
        · obtain ⟨e, he⟩ := Classical.not_forall.1 hall
          obtain ⟨h1, he⟩ := Classical.not_imp.1 he
          obtain ⟨hb, he⟩ := Classical.not_imp.1 he
          obtain ⟨hm, hx'⟩ := Classical.not_imp.1 he
          rcases haf e h1 hb with ⟨h, -⟩ | ⟨h, k⟩
          · exfalso
            obtain ⟨q, hq, e1⟩ := List.mem_map.1 hm
            obtain ⟨_, _, _, _, _, _, hq', _⟩ := hop q hq
            exact hq' (e1 ▸ h)
          · obtain ⟨q, hq, e1⟩ := List.mem_map.1 h
            refine ihm q hq ?_ (by omega)
            rw [e1]
            cases hh : x e.on with
            | none => rfl
            | some u => exact absurd ⟨u, hh⟩ hx'
    obtain ⟨p0, hp0, hx0⟩ := hex
    obtain ⟨i0, hi0⟩ := hready p0.1 p0 hp0 hx0 (Nat.le_refl _)
    refine ⟨(fun h => by rw [h] at hi0; cases hi0), fun i hi => ?_⟩
    obtain ⟨r1, o, ho, r2⟩ := mem_ready.1 hi
    have hil : i < l.length := by have := (Array.getElem?_eq_some_iff.1 ho).1; simpa using this
    rw [getD_opt, hget i hil] at r1
    simp only [Option.getD_some, Bool.or_eq_false_iff] at r1
    obtain ⟨r3, r4⟩ := r1
    have hmem : i ∈ A.map (·.1) := by
      have h5 := List.all_eq_true.1 ok5 i (by simpa using hil)
      simp only [Bool.or_eq_true] at h5
      rcases h5 with (h | h) | h
      · rw [r3] at h; cases h
      · simpa using h
      ·
        exfalso
        have hij : i ∈ js := by simpa using h
        cases js with
        | nil => cases hij
        | cons j0 js' =>
          have hnotjs : ∀ j ∈ j0 :: js', (listX A x (listedBy is (Array.replicate l.length false))).getD j false = true → False := fun j hj h => by
            have h6 := List.all_eq_true.1 ok6 j hj
            simp only [Bool.and_eq_true, Bool.not_eq_true'] at h6
            rcases hin j h with k | ⟨k, _⟩
            · have : is.contains j = true := by simpa using k
              rw [h6.1] at this; cases this
            · have : (A.map (·.1)).contains j = true := by simpa using k
              rw [h6.2] at this; cases this
          by_cases hhead : i = j0
          · subst hhead
            have hgr : ∀ (m : Nat) p, p ∈ A → x p.1 = none → l.length ≤ p.1 + m → False := by
              intro m
              induction m with
              | zero => intro p hp _ hle; have := hltp p hp; omega
              | succ m ihm =>
                intro p hp hx hle
                obtain ⟨_, _, _, _, _, _, _, hw⟩ := hop p hp
                obtain ⟨j, oj, hlt, hj, hoj, e, he, hb, hon⟩ := hw (by simp)
                rcases hj with hj | hj
                · obtain ⟨q, hq, rfl⟩ := List.mem_map.1 hj
                  cases hxq : x q.1 with
                  | none => exact ihm q hq hxq (by omega)
                  | some u =>
                    obtain ⟨u', hu'⟩ := hdown q hq ⟨u, hxq⟩ oj hoj e he hb (by rw [hon]; exact List.mem_map.2 ⟨p, hp, rfl⟩)
                    rw [hon, hx] at hu'; cases hu'
                · simp at hj
                  subst hj
                  have ho' : l[i]? = some o := by simpa using ho
                  rw [ho'] at hoj
                  cases hoj
                  rcases hin _ (r2 e he hb) with k | ⟨_, u, k⟩
                  · rw [hon] at k
                    obtain ⟨_, _, _, _, _, _, hq', _⟩ := hop p hp
                    exact hq' k
                  · rw [hon, hx] at k; cases k
            exact hgr l.length p0 hp0 hx0 (by omega)
          · have hit : i ∈ js' := by
              rcases List.mem_cons.1 hij with e | e
              · exact absurd e hhead
              · exact e
            have h4 := List.all_eq_true.1 ok4 i hit
            simp only [ho] at h4
            obtain ⟨e, he, h⟩ := Array.any_eq_true'.1 h4
            simp only [Bool.and_eq_true] at h
            exact hnotjs e.on (by simpa using h.2) (r2 e he h.1)
    obtain ⟨p, hp, rfl⟩ := List.mem_map.1 hmem
    obtain ⟨o', ho', hg, hdst, haf, hnd, hnis, _⟩ := hop p hp
    obtain rfl : o' = o := by
      have : l[p.1]? = some o := by simpa using ho
      rw [this] at ho'; exact (Option.some.inj ho').symm
    have hx : x p.1 = none := by
      have : (A.map (·.1)).contains p.1 = true := by simpa using hmem
      rw [this] at r4
      simpa using r4
    refine ⟨o', ho, .inl ⟨fun w hw => ?_, fun u => ?_⟩⟩
    · refine acts_getW A (fun q hq => by obtain ⟨o, h, _⟩ := hop q hq; exact ⟨o, h⟩) hA p hp o' ho' x _ w hx (fun e he => ?_) (putX_reads ok3 hsz) hw
      obtain ⟨hN, z, hz, hb, rfl⟩ := hnd e he
      rcases hin _ (r2 z hz hb) with k | ⟨_, k⟩
      · exfalso
        obtain ⟨q, hq, e1⟩ := List.mem_map.1 hN
        obtain ⟨_, _, _, _, _, _, hq', _⟩ := hop q hq
        exact hq' (e1 ▸ k)
      · exact k
    · rw [listX_set hmem, hdst, putX_put ok2 ok3 hp]
      refine ih (setX x p.1 u) ?_ (fun i hi => ?_) (fun q hq hs o ho e he hb hm => ?_)
      · have := filter_one ok2 hmem hx u
        omega
      · have : i ≠ p.1 := fun e => hi (e ▸ hmem)
        rw [setX_ne _ this]; exact hout i hi
      · by_cases e1 : e.on = p.1
        · rw [e1]; exact ⟨u, setX_self _ _ _⟩
        · rw [setX_ne _ e1]
          by_cases e2 : q.1 = p.1
          · rw [e2] at ho
            have : o = o' := by rw [ho'] at ho; exact (Option.some.inj ho).symm
            subst this
            rcases hin _ (r2 e he hb) with k | ⟨_, k⟩
            · exfalso
              obtain ⟨q', hq', e3⟩ := List.mem_map.1 hm
              obtain ⟨_, _, _, _, _, _, hq2, _⟩ := hop q' hq'
              exact hq2 (e3 ▸ k)
            · exact k
          · rw [setX_ne _ e2] at hs
            exact hdown q hq hs o ho e he hb hm
theorem region_detH {id : Nat} {l : List Oper} {a : Act} {w : World} (is : List Nat) (A : List Acting) (js : List Nat) (T : Ans → World → Prop) (hm : P.follows .mixedOrders = true) (hp : planH .any l.toArray is A js = true) (hT : T (fun _ => none) w.drew)
    (h : DetLA P l.toArray T (fun a => (∀ p ∈ A, ∀ s, p.2.1 = some s → s < a.tmps.size) ∧ ActsW P l.toArray T A a A (pickL l (A.map (·.1))) ∧
      ∀ (U : Nat → Value) w', T (A.foldl (fun x p => setX x p.1 (U p.1)) (fun _ => none)) w' → wpList P l.toArray Q (pickL l js) (A.foldl (fun a p => a.put p.2.1 (U p.1)) a) w') (pickL l is) a) : (Code.region id l.toArray true).wp P Q a w := by
  refine wp_region_any hm ?_
  simp only [planH, Bool.and_eq_true, beq_iff_eq, List.size_toArray] at hp
  obtain ⟨⟨⟨⟨⟨p1, p2⟩, p3⟩, p6⟩, p5⟩, p4⟩ := hp
  have hst : listedBy (is ++ A.map (·.1)) (Array.replicate l.length false) = listedBy (A.map (·.1)) (listedBy is (Array.replicate l.length false)) := by simp [listedBy]
  have p5' := p5
  unfold actsOkH at p5'
  simp only [Bool.and_eq_true, decide_eq_true_eq] at p5'
  obtain ⟨⟨⟨⟨⟨_, ok2⟩, ok3⟩, _⟩, _⟩, _⟩ := p5'
  have hd : DetA P .any l.toArray T (listedBy (is ++ A.map (·.1)) (Array.replicate l.length false)) (fun x a => ∀ w', T x w' → wpList P l.toArray Q (pickL l js) a w') (A.length + is.length) (fun _ => none) (Array.replicate l.length false) a := by
    refine det_planA p1 p6 is _ a (shut_start _) (fun i hi => List.mem_append_left _ hi) p3 ?_
    have : ∀ (L : List Oper) (a : Act), DetLA P l.toArray T (fun a => (∀ p ∈ A, ∀ s, p.2.1 = some s → s < a.tmps.size) ∧ ActsW P l.toArray T A a A (pickL l (A.map (·.1))) ∧
        ∀ (U : Nat → Value) w', T (A.foldl (fun x p => setX x p.1 (U p.1)) (fun _ => none)) w' → wpList P l.toArray Q (pickL l js) (A.foldl (fun a p => a.put p.2.1 (U p.1)) a) w') L a →
        DetLA P l.toArray T (fun a => DetA P .any l.toArray T (listedBy (is ++ A.map (·.1)) (Array.replicate l.length false)) (fun x a => ∀ w', T x w' → wpList P l.toArray Q (pickL l js) a w') A.length (fun _ => none) (listedBy is (Array.replicate l.length false)) a) L a := by
      intro L
      induction L with
      | nil =>
        rintro a ⟨hsz, hA, hQ⟩
        have hr := acts_runH (md := .any) (T := T) (F := fun x a => ∀ w', T x w' → wpList P l.toArray Q (pickL l js) a w') p5 hsz hA (fun x h1 h2 w' hw => ?_) A.length (fun _ => none) ?_ (fun _ _ => rfl) (fun p _ ⟨u, hu⟩ => by cases hu)
        · rw [putX_none] at hr
          have e : listX A (fun _ => none) (listedBy is (Array.replicate l.length false)) = listedBy is (Array.replicate l.length false) := by
            apply Array.ext_getElem?
            intro j
            rw [listX_get]
            simp
          rw [e, ← hst] at hr
          exact hr
        · have hx : A.foldl (fun y p => setX y p.1 ((fun i => (x i).getD undef) p.1)) (fun _ => none) = x := by
            funext i
            rw [foldX_get (fun i => (x i).getD undef)]
            by_cases hi : i ∈ A.map (·.1)
            · rw [if_pos hi]
              obtain ⟨p, hp, rfl⟩ := List.mem_map.1 hi
              obtain ⟨u, hu⟩ := h1 p hp
              rw [hu]; rfl
            · rw [if_neg hi, h2 i hi]
          have := hQ (fun i => (x i).getD undef) w' (by rw [hx]; exact hw)
          have hpa := putX_all ok2 ok3 (a := a) (fun i => (x i).getD undef) A (fun _ h => h) (fun _ => none)
          rw [putX_none, hx] at hpa
          rw [← hpa]
          exact this
        · have : ∀ L : List Nat, (L.filter (fun i => ((fun _ => none : Ans) i).isNone)).length = L.length := fun L => by induction L with
            | nil => rfl
            | cons y L ih => exact congrArg (· + 1) ih
          rw [this, List.length_map]
      | cons o L ih => intro a ⟨v, h1, h2⟩; exact ⟨v, h1, ih _ h2⟩
    exact this _ _ h
  have := DetA.sound (Q := Q) (k := js.length) (fun x a w hF hw => chain_wp js _ a w p4 (hF w hw)) _ (fun _ => none) _ a w.drew hd hT
  rw [show js.length + (A.length + is.length) = l.toArray.size by simp; omega] at this
  simpa using this
end
end Go.Proofs.YtojgmfhkiboeoaaDoor
