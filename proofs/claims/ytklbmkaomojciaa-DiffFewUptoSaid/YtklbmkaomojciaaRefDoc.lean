/- The document's answer about documents: walks. -/
import Derived.Test.YtklbmkaomojciaaMem
import Derived.Test.YtklbmkaomojciaaPlains
import Derived.Test.YtklbmkaomojciaaProg
import Derived.WalkLawsBesides
import Derived.WalkSpells
import Derived.Deep.QuietTactic
import Derived.BigQuiet
import Derived.RegionTactic
namespace Go.Proofs.Ytklbmkaomojciaa
open Go.RowKit
def rdAtt : World -> List Value -> Att -> Prop := fun _ cs a => cs = [.string ⟨a.name.toArray⟩, .string ⟨a.value.toArray⟩]
theorem qGs : qVu rdAtt := fun _ _ _ _ h => h
abbrev AttsAt (n : Nat) (w : World) (v : Value) (l : List Att) : Prop := qQa 2 rdAtt (· < n) w v l
abbrev qXy (n : Nat) (w : World) (v : Value) (l : List Int) : Prop := qQa 1 qQ6 (· < n) w v l
def qWb (B : Nat -> Prop) : World -> List Value -> Nd -> Prop := fun w cs x => ∃ av kv sv,
 cs = [.bool x.live, .string ⟨x.tag.toArray⟩, .string ⟨x.text.toArray⟩, av, .int .i64 x.up, kv, .bool x.hasS, sv, .bool x.inS] /\ qQa 2 rdAtt B w av x.attrs /\ qQa 1 qQ6 B w kv x.kids /\ qQa 1 qQ6 B w sv x.shadow
abbrev rdNd (n : Nat) : World -> List Value -> Nd -> Prop := qWb (· < n)
def qVr (B : Nat -> Prop) (w : World) (v : Value) (d : Dc) : Prop := qQa 9 (qWb B) B w v d
theorem qWb.agree {B : Nat -> Prop} {w w' : World} {cs : List Value} {x : Nd} (h : qWb B w cs x) (ha : qQ2 B w w') : qWb B w' cs x := by
 obtain ⟨av, kv, sv, h1, h2, h3, h4⟩ := h
 exact ⟨av, kv, sv, h1, h2.agree ha (fun _ _ _ h => h), h3.agree ha (fun _ _ _ h => h), h4.agree ha (fun _ _ _ h => h)⟩
theorem qWb.mono {B C : Nat -> Prop} {w : World} {cs : List Value} {x : Nd} (h : qWb B w cs x) (hc : ∀ b, B b -> C b) : qWb C w cs x := by
 obtain ⟨av, kv, sv, h1, h2, h3, h4⟩ := h
 exact ⟨av, kv, sv, h1, h2.mono hc (fun _ _ _ h => h), h3.mono hc (fun _ _ _ h => h), h4.mono hc (fun _ _ _ h => h)⟩
theorem qVr.agree {B : Nat -> Prop} {w w' : World} {v : Value} {d : Dc} (h : qVr B w v d) (ha : qQ2 B w w') : qVr B w' v d := qQa.agree h ha (fun _ _ _ hr => hr.agree ha)
theorem qVr.mono {B C : Nat -> Prop} {w : World} {v : Value} {d : Dc} (h : qVr B w v d) (hc : ∀ b, B b -> C b) : qVr C w v d := qQa.mono h hc (fun _ _ _ hr => hr.mono hc)
def qVm (n : Nat) (w : World) (v : Value) (d : Dc) : Prop := qQa 9 (rdNd n) (· < n) w v d
theorem rdNd.later {n m : Nat} {w w' : World} {cs : List Value} {x : Nd} (h : rdNd n w cs x) (hb : Below m w w') (hn : n <= m) : rdNd n w' cs x := by
 obtain ⟨av, kv, sv, h1, h2, h3, h4⟩ := h
 exact ⟨av, kv, sv, h1, h2.later qGs hb hn, h3.later qZl hb hn, h4.later qZl hb hn⟩
theorem rdNd.raise {n m : Nat} {w : World} {cs : List Value} {x : Nd} (h : rdNd n w cs x) (hn : n <= m) : rdNd m w cs x := by
 obtain ⟨av, kv, sv, h1, h2, h3, h4⟩ := h
 have hh : ∀ b : Nat, b < n -> b < m := fun b h => Nat.lt_of_lt_of_le h hn
 exact ⟨av, kv, sv, h1, h2.mono hh (fun _ _ _ h => h), h3.mono hh (fun _ _ _ h => h), h4.mono hh (fun _ _ _ h => h)⟩
theorem qVm.later {n m : Nat} {w w' : World} {v : Value} {d : Dc} (h : qVm n w v d) (hb : Below m w w') (hn : n <= m) : qVm n w' v d :=
 qQa.agree h (qQ2.mono (qQ2.below hb) (fun _ hb => Nat.lt_of_lt_of_le hb hn)) (fun _ _ _ hr => hr.later hb hn)
theorem qVm.raise {n m : Nat} {w : World} {v : Value} {d : Dc} (h : qVm n w v d) (hn : n <= m) : qVm m w v d :=
 qQa.mono h (fun _ h => Nat.lt_of_lt_of_le h hn) (fun _ _ _ hr => hr.raise hn)
structure NdCells (n : Nat) (w : World) (b o : Nat) (x : Nd) (av kv sv : Value) : Prop where
 live : w.cell? ⟨b, o, none⟩ = some (.bool x.live)
 tag : w.cell? ⟨b, o + 1, none⟩ = some (.string ⟨x.tag.toArray⟩)
 text : w.cell? ⟨b, o + 2, none⟩ = some (.string ⟨x.text.toArray⟩)
 atts : w.cell? ⟨b, o + 3, none⟩ = some av
 up : w.cell? ⟨b, o + 4, none⟩ = some (.int .i64 x.up)
 kids : w.cell? ⟨b, o + 5, none⟩ = some kv
 hasS : w.cell? ⟨b, o + 6, none⟩ = some (.bool x.hasS)
 shadow : w.cell? ⟨b, o + 7, none⟩ = some sv
 inS : w.cell? ⟨b, o + 8, none⟩ = some (.bool x.inS)
 attsAt : AttsAt n w av x.attrs
 kidsAt : qXy n w kv x.kids
 shadowAt : qXy n w sv x.shadow
theorem qYm {n : Nat} {w : World} {b o : Nat} {x : Nd} {cs : List Value} (h : qZ7 w b o cs) (hr : rdNd n w cs x) : ∃ av kv sv, NdCells n w b o x av kv sv := by
 obtain ⟨av, kv, sv, rfl, h2, h3, h4⟩ := hr
 exact ⟨av, kv, sv, by simpa using h 0 _ rfl, h 1 _ rfl, h 2 _ rfl, h 3 _ rfl, h 4 _ rfl, h 5 _ rfl, h 6 _ rfl, h 7 _ rfl, h 8 _ rfl, h2, h3, h4⟩
theorem qVm.node {n : Nat} {w : World} {v : Value} {d : Dc} (h : qVm n w v d) (i : Nat) (hi : i < d.length) :
 ∃ b off cap av kv sv, v = .slice (some ⟨b, off, none⟩) d.length cap /\ d.length <= cap /\ cap <= 9223372036854775807 /\ b < n /\ NdCells n w b (off + i * 9) d[i] av kv sv := by
 obtain ⟨a, cap0, e0, e1, e2⟩ := qQa.form h
 obtain ⟨b, off, cap, cs, h1, h2, h3, h4, h5⟩ := qQa.elem h i hi
 obtain ⟨av, kv, sv, hN⟩ := qYm h4 h5
 rw [h1] at e0
 simp at e0
 obtain ⟨_, rfl⟩ := e0
 exact ⟨b, off, cap, av, kv, sv, h1, e1, e2, h2, hN⟩
theorem qVr.node {B : Nat -> Prop} {w : World} {v : Value} {d : Dc} (h : qVr B w v d) (hBl : ∀ b, B b -> b < w.heap.size) (i : Nat) (hi : i < d.length) :
 ∃ b off cap av kv sv, v = .slice (some ⟨b, off, none⟩) d.length cap /\ d.length <= cap /\ cap <= 9223372036854775807 /\ b < w.heap.size /\ NdCells w.heap.size w b (off + i * 9) d[i] av kv sv /\ qQa 2 rdAtt B w av d[i].attrs := by
 obtain ⟨a, cap0, e0, e1, e2⟩ := qQa.form h
 obtain ⟨b, off, cap, cs, h1, h2, h3, h4, h5⟩ := qQa.elem h i hi
 have h5' := h5
 obtain ⟨av, kv, sv, rfl, q2, q3, q4⟩ := h5'
 have g0 := h4
 obtain ⟨av', kv', sv', hN⟩ := qYm h4 (h5.mono hBl)
 have e3 : av' = av := by
  have a1 := hN.atts
  have a2 := g0 3 av rfl
  rw [a2] at a1
  exact (Option.some.inj a1).symm
 rw [e3] at hN
 rw [h1] at e0
 simp at e0
 obtain ⟨_, rfl⟩ := e0
 exact ⟨b, off, cap, av, kv', sv', h1, e1, e2, hBl _ h2, hN, q2⟩
end Go.Proofs.Ytklbmkaomojciaa
namespace Go.Proofs.Ytklbmkaomojciaa
open Go.RowKit
theorem qK8 : SlT Try.prog 43 3 1 8 := by
 refine ⟨by kernel_rfl, ?_⟩
 obtain ⟨i, h1, h2, h3, h4⟩ := info_parts (by kernel_rfl : (Try.prog.info? 3).map (fun i => (i.zero, i.size, i.bytes)) = some (some (.int .i64 0), 1, 8))
 exact ⟨i, _, h1, h2, h3, h4, rfl⟩
theorem qY7 {l : List Int} {x : Int} {j : Nat} (h : (l.take j).contains x = false) (hj : j < l.length) (hx : l[j] ≠ x) : (l.take (j + 1)).contains x = false := by
 rw [List.take_succ_eq_append_getElem hj]
 simp only [List.contains_eq_mem, List.mem_append, List.mem_singleton, decide_eq_false_iff_not] at h ⊢
 exact fun g => g.elim h (fun g => hx g.symm)
end Go.Proofs.Ytklbmkaomojciaa
namespace Go.Proofs.Ytklbmkaomojciaa
open Go.RowKit
end Go.Proofs.Ytklbmkaomojciaa
namespace Go.Proofs.Ytklbmkaomojciaa
open Go.RowKit
def qJc : World -> Nat -> Nat -> List Value -> World
 | w, _, _, [] => w
 | w, g, o, c :: cs => qJc (w.setCell ⟨g, o, none⟩ c) g (o + 1) cs
def setAll : List Value -> Nat -> List Value -> List Value
 | xs, _, [] => xs
 | xs, o, c :: cs => setAll (xs.set o c) (o + 1) cs
theorem qY5 : ∀ (cs xs : List Value) (o : Nat), (setAll xs o cs).length = xs.length := by
 intro cs
 induction cs with
 | nil => intro xs o; rfl
 | cons c cs ih => intro xs o; rw [setAll, ih]; simp
theorem qK3 : ∀ (cs xs : List Value) (o j : Nat), j < o ∨ o + cs.length <= j -> (setAll xs o cs)[j]? = xs[j]? := by
 intro cs
 induction cs with
 | nil => intro xs o j _; rfl
 | cons c cs ih =>
   intro xs o j h
   simp only [List.length_cons] at h
   rw [setAll, ih _ _ _ (by omega), List.getElem?_set_ne (by omega)]
theorem qHn : ∀ (cs xs : List Value) (o j : Nat), o + cs.length <= xs.length -> j < cs.length -> (setAll xs o cs)[o + j]? = cs[j]? := by
 intro cs
 induction cs with
 | nil => intro xs o j _ h; simp at h
 | cons c cs ih =>
   intro xs o j h1 h2
   simp only [List.length_cons] at h1 h2
   rw [setAll]
   cases j with
   | zero =>
     have := qK3 cs (xs.set o c) (o + 1) o (by omega)
     rw [List.getElem?_set_self (by omega)] at this
     exact this
   | succ j =>
     have := ih (xs.set o c) (o + 1) j (by simp; omega) (by omega)
     rw [show o + (j + 1) = o + 1 + j by omega, this]
     simp
theorem qV5 {base : Nat} {e : TypeId} {size g n cap : Nat} : ∀ (cs : List Value) (w : World) (xs : List Value) (o : Nat), w.ownsRow base e size (.slice (some ⟨g, 0, none⟩) n cap) n xs ->
 (qJc w g o cs).ownsRow base e size (.slice (some ⟨g, 0, none⟩) n cap) n (setAll xs o cs) /\ w.grownBy (qJc w g o cs) (some g) := by
 intro cs
 induction cs with
 | nil => intro w xs o h; exact ⟨h, World.grownBy.refl _ _⟩
 | cons c cs ih =>
   intro w xs o h
   obtain ⟨h1, h2⟩ := h.stored o c
   obtain ⟨h3, h4⟩ := ih _ _ (o + 1) h1
   exact ⟨h3, qQn h2 h4⟩
theorem qX5 : ∀ (xss : List (List Value)) (i : Nat) (cs : List Value) (sz : Nat), (∀ x ∈ xss, x.length = sz) -> cs.length = sz -> i < xss.length -> setAll xss.flatten (i * sz) cs = (xss.set i cs).flatten := by
 intro xss i cs sz hx hc hi
 have hset : ∀ x ∈ xss.set i cs, x.length = sz := fun x h => by
  rcases List.mem_or_eq_of_mem_set h with h | rfl
  · exact hx x h
  · exact hc
 apply List.ext_getElem?
 intro j
 have hl1 : (setAll xss.flatten (i * sz) cs).length = xss.length * sz := by rw [qY5, qZ1 hx]
 have hl2 : (xss.set i cs).flatten.length = xss.length * sz := by rw [qZ1 hset]; simp
 by_cases hj : j < xss.length * sz
 · have hsz : 0 < sz := Nat.pos_of_ne_zero (by rintro rfl; simp at hj)
   have hq : j / sz < xss.length := Nat.div_lt_of_lt_mul (by rw [Nat.mul_comm]; exact hj)
   have hr : j % sz < sz := Nat.mod_lt _ hsz
   have hj2 : j = j / sz * sz + j % sz := by rw [Nat.mul_comm]; exact (Nat.div_add_mod j sz).symm
   have hbound : i * sz + sz <= xss.length * sz := by rw [<- Nat.succ_mul]; exact Nat.mul_le_mul_right _ hi
   by_cases hqi : j / sz = i
   · have h1 := qHn cs xss.flatten (i * sz) (j % sz) (by rw [qZ1 hx, hc]; exact hbound) (by omega)
     have h2 := qQ8 hset i (by simpa using hi) (j % sz) _ (by rw [List.getElem_set_self]; exact List.getElem?_eq_getElem (by omega))
     rw [hj2, hqi, h1, h2]
     exact List.getElem?_eq_getElem (by omega)
   · have h1 : (setAll xss.flatten (i * sz) cs)[j]? = xss.flatten[j]? := qK3 _ _ _ _ (by
      rcases Nat.lt_or_gt_of_ne hqi with h | h
      · left
        have : (j / sz + 1) * sz <= i * sz := Nat.mul_le_mul_right _ h
        rw [Nat.succ_mul] at this; omega
      · right
        have : (i + 1) * sz <= j / sz * sz := Nat.mul_le_mul_right _ h
        rw [Nat.succ_mul] at this; omega)
     have h3 := qQ8 hx (j / sz) hq (j % sz) _ (List.getElem?_eq_getElem (by rw [hx _ (List.getElem_mem hq)]; exact hr))
     have h2 := qQ8 hset (j / sz) (by simpa using hq) (j % sz) (xss[j / sz][j % sz]'(by rw [hx _ (List.getElem_mem hq)]; exact hr)) (by
      rw [List.getElem_set_ne (fun h => hqi h.symm)]
      exact List.getElem?_eq_getElem _)
     rw [h1]
     rw [<- hj2] at h2 h3
     rw [h2, h3]
 · rw [List.getElem?_eq_none (by omega), List.getElem?_eq_none (by omega)]
theorem qQc.stored {α : Type} {sz : Nat} {rd : World -> List Value -> α -> Prop} {base : Nat} {e : TypeId} {w : World} {g n cap : Nat} {l : List α} (h : qQc sz rd base e w (.slice (some ⟨g, 0, none⟩) n cap) l) (i : Nat) (hi : i < l.length) (cs : List Value) (x : α)
 (hn : n = l.length) (hc : cs.length = sz) (hr : rd (qJc w g (i * sz) cs) cs x) (hk : ∀ ys y, y ∈ l -> rd w ys y -> rd (qJc w g (i * sz) cs) ys y) :
 qQc sz rd base e (qJc w g (i * sz) cs) (.slice (some ⟨g, 0, none⟩) n cap) (l.set i x) /\ w.grownBy (qJc w g (i * sz) cs) (some g) := by
 subst hn
 obtain ⟨xss, q1, q2, q3⟩ := h
 obtain ⟨h1, h2⟩ := qV5 cs w _ (i * sz) q3
 have hx : ∀ x ∈ xss, x.length = sz := by
  intro x hx
  obtain ⟨k, hk, rfl⟩ := List.getElem_of_mem hx
  exact (q2 k (by omega) hk).1
 rw [qX5 xss i cs sz hx hc (by omega)] at h1
 refine ⟨⟨xss.set i cs, by simpa using q1, ?_, by simpa using h1⟩, h2⟩
 intro k hk1 hk2
 by_cases hki : i = k
 · subst hki
   simp only [List.getElem_set_self]
   exact ⟨hc, hr⟩
 · rw [List.getElem_set_ne hki, List.getElem_set_ne hki]
   have := q2 k (by simpa using hk1) (by simpa using hk2)
   exact ⟨this.1, hk _ _ (List.getElem_mem _) this.2⟩
end Go.Proofs.Ytklbmkaomojciaa
namespace Go.Proofs.Ytklbmkaomojciaa
open Go.RowKit
end Go.Proofs.Ytklbmkaomojciaa
