/- A tree in memory, list by list; diff.find and diff.in: walked. -/
import Derived.Test.YtklbmkaomojciaaFlatIt
import Derived.BigQuiet
set_option maxRecDepth 100000
set_option maxHeartbeats 2000000
namespace Go.Proofs.Ytklbmkaomojciaa
open Go.RowKit
def qKi (rec : Int -> Option (Int × Nat)) (own node : Int) : Nat -> List Int -> Option (Int × Nat)
 | _, [] => none
 | i, x :: l => if x = node then some (own, i) else match rec x with
   | some r => some r
   | none => qKi rec own node (i + 1) l
def qKa (t : Fl) (node : Int) : Nat -> Int -> Option (Int × Nat)
 | 0, _ => none
 | f + 1, id => qKi (qKa t node f) id node 0 (t.kids id)
section
variable {t : Fl}
theorem qYf (h : Wf t) {μ : Int -> Nat} {N : Nat} (F : Falls t.kids μ N) (node : Int) : ∀ (f : Nat) (id : Int), N < μ id + f -> qKa t node f id = open Classical in if Reach t.kids id node /\ node ≠ id then some (t.par node, (t.kids (t.par node)).idxOf node) else none := by
 intro f
 induction f with
 | zero => intro id hf; have := F.top id; omega
 | succ f ih =>
   intro id hf
   have main : ∀ (l : List Int) (i : Nat), (t.kids id).drop i = l -> (∀ k ∈ (t.kids id).take i, ¬ Reach t.kids k node) -> qKi (qKa t node f) id node i l = open Classical in if Reach t.kids id node /\ node ≠ id then some (t.par node, (t.kids (t.par node)).idxOf node) else none := by
    intro l
    induction l with
    | nil =>
      intro i hd hno
      have hil : (t.kids id).length <= i := by have := congrArg List.length hd; simp at this; omega
      rw [List.take_of_length_le hil] at hno
      unfold qKi
      rw [if_neg]
      rintro ⟨hr, hne⟩
      rcases hr.first with e | ⟨k, hk, h2⟩
      · exact hne e
      · exact hno k hk h2
    | cons x l ihl =>
      intro i hd hno
      have hil : i < (t.kids id).length := by have := congrArg List.length hd; simp at this; omega
      have hdl := List.drop_eq_getElem_cons hil
      rw [hdl] at hd
      obtain ⟨hx, hd2⟩ := List.cons.inj hd
      have hxk : x ∈ t.kids id := hx ▸ List.getElem_mem hil
      have hxi : (t.kids id).idxOf x = i := by
       have hlt : (t.kids id).idxOf x < (t.kids id).length := List.idxOf_lt_length_of_mem hxk
       exact (List.getElem_inj (h.alone.once id)).1 ((List.getElem_idxOf hlt).trans hx.symm)
      have hne : ∀ y, Reach t.kids x y -> y ≠ id := fun y hr e => by
       subst e
       have := Reach.le F hr
       have := F.down _ _ hxk
       omega
      unfold qKi
      split
      · rename_i e
        subst e
        rw [if_pos ⟨.step .here hxk, hne _ .here⟩, (h.has_kid hxk).2, hxi]
      · rename_i e
        rw [ih x (by have := F.down _ _ hxk; omega)]
        by_cases hr : Reach t.kids x node
        · rw [if_pos ⟨hr, fun e2 => e e2.symm⟩, if_pos ⟨hr.trans (.step .here hxk), hne _ hr⟩]
        · rw [if_neg (fun c => hr c.1)]
          refine ihl (i + 1) hd2 (fun k hk => ?_)
          rw [List.take_succ_eq_append_getElem hil, hx] at hk
          rcases List.mem_append.1 hk with hk | hk
          · exact hno k hk
          · rw [List.mem_singleton.1 hk]; exact hr
   exact main (t.kids id) 0 (by simp) (by simp)
theorem qB6 {rec : Int -> Option (Int × Nat)} {own node : Int} {l : List Int} {i : Nat} (hi : i < l.length) : qKi rec own node i (l.drop i) = if l[i] = node then some (own, i) else match rec l[i] with
 | some r => some r
 | none => qKi rec own node (i + 1) (l.drop (i + 1)) := by
 rw [List.drop_eq_getElem_cons hi, qKi]
end
def rdF (t : Fl) (V : Int -> Value) : World -> List Value -> Int -> Prop := fun _ cs n => cs = qQd (t.head n) (V n)
def qJa (B : Nat -> Prop) (w : World) (V : Int -> Value) (t : Fl) : Prop := ∀ n, (n = -1 ∨ Has t n) -> qQa 8 (rdF t V) B w (V n) (t.kids n)
def qQe (box : Addr) (t : Fl) (V : Int -> Value) (n : Int) : Addr :=
 if n = -1 then box else match V (t.par n) with
  | .slice (some a) _ _ => ⟨a.block, a.off + (t.kids (t.par n)).idxOf n * 8 + 7, none⟩
  | _ => box
def qVt (box : Addr) (t : Fl) (V : Int -> Value) : Option (Int × Nat) -> Value
 | none => .tuple #[.pointer none, .int .i64 0]
 | some r => .tuple #[.pointer (some (qQe box t V r.1)), .int .i64 r.2]
theorem qJa.agree {B : Nat -> Prop} {w w' : World} {V : Int -> Value} {t : Fl} (h : qJa B w V t) (ha : qQ2 B w w') : qJa B w' V t := fun n hn => (h n hn).agree ha (fun _ _ _ hr => hr)
structure TabC (w : World) (b o : Nat) (hd : Hd) (kv : Value) : Prop where
 node : w.cell? ⟨b, o, none⟩ = some (.int .i64 hd.node)
 role : w.cell? ⟨b, o + 1, none⟩ = some (.int .i64 hd.role)
 name : w.cell? ⟨b, o + 2, none⟩ = some (.string ⟨hd.name.toArray⟩)
 about : w.cell? ⟨b, o + 3, none⟩ = some (.string ⟨hd.about.toArray⟩)
 level : w.cell? ⟨b, o + 4, none⟩ = some (.int .i64 hd.level)
 checked : w.cell? ⟨b, o + 5, none⟩ = some (.int .i64 hd.checked)
 off : w.cell? ⟨b, o + 6, none⟩ = some (.bool hd.off)
 kids : w.cell? ⟨b, o + 7, none⟩ = some kv
theorem qJa.item {B : Nat -> Prop} {w : World} {V : Int -> Value} {t : Fl} (H : qJa B w V t) {n : Int} (hn : n = -1 ∨ Has t n) (i : Nat) (hi : i < (t.kids n).length) :
 ∃ b off cap, V n = .slice (some ⟨b, off, none⟩) (t.kids n).length cap /\ (t.kids n).length <= cap /\ cap <= 9223372036854775807 /\ B b /\ TabC w b (off + i * 8) (t.head (t.kids n)[i]) (V (t.kids n)[i]) := by
 have h := H n hn
 obtain ⟨a, cap0, e0, e1, e2⟩ := qQa.form h
 obtain ⟨b, off, cap, cs, h1, h2, h3, h4, h5⟩ := qQa.elem h i hi
 rw [h1] at e0
 simp at e0
 obtain ⟨_, rfl⟩ := e0
 have h5 : cs = qQd (t.head (t.kids n)[i]) (V (t.kids n)[i]) := h5
 subst h5
 exact ⟨b, off, cap, h1, e1, e2, h2, by simpa using h4 0 _ rfl, h4 1 _ rfl, h4 2 _ rfl, h4 3 _ rfl, h4 4 _ rfl, h4 5 _ rfl, h4 6 _ rfl, h4 7 _ rfl⟩
theorem qKq {box : Addr} {t : Fl} {V : Int -> Value} (h : Wf t) {n : Int} {i : Nat} (hi : i < (t.kids n).length) {b off : Nat} {len cap : Nat} (hV : V n = .slice (some ⟨b, off, none⟩) len cap) : qQe box t V (t.kids n)[i] = ⟨b, off + i * 8 + 7, none⟩ := by
 have hk := List.getElem_mem hi
 obtain ⟨h1, h2⟩ := h.has_kid hk
 have h0 := Has.ge h h1
 unfold qQe
 rw [if_neg (by omega), h2, hV]
 have hlt : (t.kids n).idxOf (t.kids n)[i] < (t.kids n).length := List.idxOf_lt_length_of_mem hk
 have : (t.kids n).idxOf (t.kids n)[i] = i := (List.getElem_inj (h.alone.once n)).1 (List.getElem_idxOf hlt)
 simp only [this]
theorem qQy {B : Nat -> Prop} {box : Addr} {t : Fl} {V : Int -> Value} (h : Wf t) {μ : Int -> Nat} {N : Nat} (F : Falls t.kids μ N) (hh : ∀ n, Has t n -> (t.head n).node = n) (node : Int) : ∀ (f : Nat) (n : Int) (w : World), qJa B w V t -> (n = -1 ∨ Has t n) -> N < μ n + f -> w.cell? (qQe box t V n) = some (V n) ->
 Calls Try.prog 17 #[.pointer (some (qQe box t V n)), .int .i64 node] w (Rv (qVt box t V (qKa t node f n)) w) := by
 intro f
 induction f with
 | zero => intro n w _ _ hf; have := F.top n; omega
 | succ f ih =>
 intro n w hT hn hf hc
 obtain ⟨va, vc, hV, v1, v2⟩ := qQa.form (hT n hn)
 have hVV := hV
 rw [hV] at hc
 have HT := lH hT
 have HIH := lH ih
 have HF : Hid (qKa t node (f + 1) n = qKi (qKa t node f) n node 0 (t.kids n)) := lH rfl
 have HVV := lH hVV
 clear hT ih hVV hV
 rw [HF.out]
 generalize hca : qQe box t V n = ca at *
 have HCA := lH hca
 clear hca
 go_enter Try.func17, Try.ntmps17
 go_wp2
 go_loopw [13] (fun z wr => ∃ i : Nat, i <= (t.kids n).length /\ z = .int .i64 i /\ qKi (qKa t node f) n node 0 (t.kids n) = qKi (qKa t node f) n node i ((t.kids n).drop i) /\ wr = w) (fun z _ => (t.kids n).length - (intOf z).toNat)
 case atStart => exact ⟨0, by omega, rfl, by simp, rfl⟩
 case round =>
  obtain ⟨i, hi, rfl, hP, rfl⟩ := hrel
  have HP := lH hP
  clear hP
  by_cases hlt : i < (t.kids n).length
  · have hltz : (i : Int) < ((t.kids n).length : Int) := by omega
    obtain ⟨b, off, cap, e1, -, -, hb, hI⟩ := HT.out.item hn i hlt
    rw [HVV.out] at e1
    simp at e1
    obtain ⟨rfl, rfl⟩ := e1
    have c0 := hI.node
    have c7 := hI.kids
    have hk : Has t (t.kids n)[i] := (h.has_kid (List.getElem_mem hlt)).1
    have hmu := F.down _ _ (List.getElem_mem hlt)
    have hck := qKq (box := box) (V := V) h hlt HVV.out
    have hst := qB6 (rec := qKa t node f) (own := n) (node := node) hlt
    rw [hh _ hk] at c0
    have cK := HIH.out (t.kids n)[i] wr HT.out (.inr hk) (by omega) (by rw [hck]; exact c7)
    rw [hck] at cK
    have HCK := lH cK
    have HST := lH hst
    clear cK hst hck hI hmu
    generalize (t.kids n)[i] = x at *
    by_cases hx : x = node
    · have hb1 : (x == node) = true := by simpa using hx
      have HR : Hid (qKi (qKa t node f) n node 0 (t.kids n) = some (n, i)) := lH (by rw [HP.out, HST.out, if_pos hx])
      clear hx
      have HFV : Hid (qVt box t V (some (n, i)) = .tuple #[.pointer (some ca), .int .i64 i]) := lH (by rw [<- HCA.out]; rfl)
      rw [HR.out, HFV.out]
      go_wp2
      go_ret2
      exact ⟨rfl, rfl⟩
    · have hb1 : (x == node) = false := by simpa using hx
      have hst2 := HST.out
      rw [if_neg hx] at hst2
      clear hx
      cases hr : qKa t node f x with
      | some r =>
        rw [hr] at HCK hst2
        have HR : Hid (qKi (qKa t node f) n node 0 (t.kids n) = some r) := lH (by rw [HP.out, hst2])
        unfold qVt at HCK
        clear hst2 hr
        rw [HR.out]
        go_wp2_with (go_at_call 17; (with_reducible refine HCK.out.mono ?_); rintro e w2 ⟨rfl, rfl⟩)
        go_ret2
        exact ⟨rfl, rfl⟩
      | none =>
        rw [hr] at HCK hst2
        unfold qVt at HCK
        have HR := lH hst2
        clear hst2 hr
        go_wp2_with (go_at_call 17; (with_reducible refine HCK.out.mono ?_); rintro e w2 ⟨rfl, rfl⟩)
        go_roundw
        case rel => exact ⟨i + 1, by omega, by go_num, by rw [HP.out, HR.out], trivial⟩
        case measure => simp [intOf]; omega
  · have HR : Hid (qKi (qKa t node f) n node 0 (t.kids n) = none) := lH (by rw [HP.out, List.drop_of_length_le (by omega)]; rfl)
    go_wp2
    go_ret2
    exact ⟨by rw [HR.out]; rfl, rfl⟩
theorem qJa.cell {B : Nat -> Prop} {w : World} {V : Int -> Value} {t : Fl} (H : qJa B w V t) (h : Wf t) {box : Addr} (hc : w.cell? box = some (V (-1))) {n : Int} (hn : n = -1 ∨ Has t n) : w.cell? (qQe box t V n) = some (V n) := by
 rcases hn with rfl | hn
 · unfold qQe
   rw [if_pos rfl]
   exact hc
 · have hp : t.par n = -1 ∨ Has t (t.par n) := h.kids_has (by intro e; unfold Has at hn; rw [e] at hn; simp at hn)
   have hlt : (t.kids (t.par n)).idxOf n < (t.kids (t.par n)).length := List.idxOf_lt_length_of_mem hn
   have hget : (t.kids (t.par n))[(t.kids (t.par n)).idxOf n] = n := List.getElem_idxOf hlt
   obtain ⟨b, off, cap, e1, _, _, _, hI⟩ := H.item hp _ hlt
   have hck := qKq (box := box) (V := V) h hlt e1
   rw [hget] at hck hI
   rw [hck]
   exact hI.kids
theorem qXo {t : Fl} (h : Wf t) {μ : Int -> Nat} {N f : Nat} (F : Falls t.kids μ N) (hf : N < f) {n : Int} (hn : Has t n) : qKa t n f (-1) = some (t.par n, (t.kids (t.par n)).idxOf n) := by
 rw [qYf h F n f (-1) (by omega), if_pos ⟨hn.reach h, fun e => h.no_top (e ▸ hn)⟩]
theorem qKt {t : Fl} (h : Wf t) {μ : Int -> Nat} {N f : Nat} (F : Falls t.kids μ N) (hf : N < f) {n : Int} (hn : ¬ Has t n) : qKa t n f (-1) = none := by
 rw [qYf h F n f (-1) (by omega), if_neg]
 rintro ⟨hr, hne⟩
 rcases qV3 h hr with e | e
 · exact hne e
 · exact hn e
theorem qZ2 {B : Nat -> Prop} {box : Addr} {t : Fl} {V : Int -> Value} (h : Wf t) {μ : Int -> Nat} {N f : Nat} (F : Falls t.kids μ N) (hf : N < f) (hh : ∀ n, Has t n -> (t.head n).node = n) (tq : Int) (w : World) (hT : qJa B w V t) (hc : w.cell? box = some (V (-1))) (hto : tq = -1 ∨ Has t tq) :
 Calls Try.prog 31 #[.pointer (some box), .int .i64 tq] w (Rv (.pointer (some (qQe box t V tq))) w) := by
 rcases hto with rfl | hto
 · have e : qQe box t V (-1) = box := by unfold qQe; rw [if_pos rfl]
   rw [e]
   go_enter Try.func31, Try.ntmps31
   go_wp2
   go_ret
   exact ⟨rfl, rfl⟩
 · have h0 := Has.ge h hto
   have hp : t.par tq = -1 ∨ Has t (t.par tq) := h.kids_has (by intro e; unfold Has at hto; rw [e] at hto; simp at hto)
   have hlt : (t.kids (t.par tq)).idxOf tq < (t.kids (t.par tq)).length := List.idxOf_lt_length_of_mem hto
   have hget : (t.kids (t.par tq))[(t.kids (t.par tq)).idxOf tq] = tq := List.getElem_idxOf hlt
   obtain ⟨b, off, cap, e1, e2, e3, _, hI⟩ := hT.item hp _ hlt
   have hck := qKq (box := box) (V := V) h hlt e1
   rw [hget] at hck
   have hcp := hT.cell h hc hp
   rw [e1] at hcp
   have cF := qQy (box := box) h F hh tq f (-1) w hT (.inl rfl) (by omega) (hT.cell h hc (.inl rfl))
   have eb : qQe box t V (-1) = box := by unfold qQe; rw [if_pos rfl]
   rw [eb, qXo h F hf hto] at cF
   unfold qVt at cF
   simp only at cF
   rw [hck]
   have hneg : decide (tq < 0) = false := by simp; omega
   have hltz : ((t.kids (t.par tq)).idxOf tq : Int) < ((t.kids (t.par tq)).length : Int) := by omega
   have HCF := lH cF
   clear cF hck hI hget hT e1 eb
   generalize (t.kids (t.par tq)).idxOf tq = i at *
   generalize qQe box t V (t.par tq) = ca at *
   generalize (t.kids (t.par tq)).length = L at *
   go_enter Try.func31, Try.ntmps31
   go_wp2_with (go_at_call 17; (with_reducible refine HCF.out.mono ?_); rintro e w2 ⟨rfl, rfl⟩)
   go_ret
   exact ⟨rfl, rfl⟩
end Go.Proofs.Ytklbmkaomojciaa
