/- Items that are only read, list by list. -/
import Derived.Test.YtklbmkaomojciaaDiffOwn
namespace Go.Proofs.Ytklbmkaomojciaa
open Go.RowKit
def qVq (B : Nat -> Prop) (w : World) (hd : Int -> Hd) (V : Int -> Value) (R : List (Int × List Int)) : Prop := ∀ r ∈ R, qQa 8 (fun _ cs k => cs = qQd (hd k) (V k)) B w (V r.1) r.2
theorem qVq.swap {B : Nat -> Prop} {w : World} {hd : Int -> Hd} {V V' : Int -> Value} {R : List (Int × List Int)} (h : qVq B w hd V R) (hV : ∀ r ∈ R, V' r.1 = V r.1 /\ ∀ k ∈ r.2, V' k = V k) : qVq B w hd V' R := fun r hr => by
 obtain ⟨s1, s2⟩ := hV r hr
 rw [s1]
 exact (h r hr).mono (fun _ h => h) (fun cs k hk e => by rw [s2 k hk]; exact e)
open Classical in
theorem its_rows (B : Nat -> Prop) (w : World) (hd : Int -> Hd) :
 (∀ x : It, ∀ (k : Nat) (v : Value), ItsK B k w v x.kids -> (nodesI x).Nodup -> (∀ h ∈ headsI x, hd h.node = h) -> ∃ V, V x.h.node = v /\ qVq B w hd V (rowsI x)) /\
 ∀ l : List It, ∀ (k : Nat) (vs : List Value), vs.length = l.length -> (∀ i (h1 : i < l.length) (h2 : i < vs.length), ItsK B k w vs[i] l[i].kids) -> (nodesL l).Nodup -> (∀ h ∈ headsL l, hd h.node = h) ->
  ∃ V, (∀ i (h1 : i < l.length) (h2 : i < vs.length), V l[i].h.node = vs[i]) /\ qVq B w hd V (rowsK l) := by
 refine qJg ?_ ?_ ?_
 · intro h ks ih k v hO hn hh
   rw [nodesI, List.nodup_cons] at hn
   rw [headsI] at hh
   simp only [It.kids] at hO
   have hnode : ∀ i (h1 : i < ks.length), ks[i].h.node ∈ nodesL ks := fun i h1 => by
    rw [qQl]
    exact List.mem_flatMap.2 ⟨ks[i], List.getElem_mem h1, by rw [qQm]; exact List.mem_cons_self⟩
   have hex : ∀ i, i < ks.length -> ∃ v' : Value, ∀ (h1 : i < ks.length), ItsK B (k - 1) w v' ks[i].kids /\ ∀ b off cap, v = .slice (some ⟨b, off, none⟩) ks.length cap -> ∀ cs, cs.length = 8 -> qZ7 w b (off + i * 8) cs -> cs = qQd ks[i].h v' := fun i h1 => by
    obtain ⟨b, off, cap, kv, k', rfl, e1, -, -, -, hI⟩ := hO.item i h1
    refine ⟨kv, fun _ => ⟨hI.kidsAt, fun b2 off2 cap2 e2 cs hl hc => ?_⟩⟩
    rw [e1] at e2
    simp only [Value.slice.injEq, Option.some.injEq, Addr.mk.injEq] at e2
    obtain ⟨⟨rfl, rfl, -⟩, -, -⟩ := e2
    match cs, hl with
    | [a0, a1, a2, a3, a4, a5, a6, a7], _ =>
      have e0 := (hc 0 a0 rfl).symm.trans (by simpa using hI.node)
      have e1 := (hc 1 a1 rfl).symm.trans hI.role
      have e2 := (hc 2 a2 rfl).symm.trans hI.name
      have e3 := (hc 3 a3 rfl).symm.trans hI.about
      have e4 := (hc 4 a4 rfl).symm.trans hI.level
      have e5 := (hc 5 a5 rfl).symm.trans hI.checked
      have e6 := (hc 6 a6 rfl).symm.trans hI.off
      have e7 := (hc 7 a7 rfl).symm.trans hI.kids
      simp only [Option.some.injEq] at e0 e1 e2 e3 e4 e5 e6 e7
      rw [e0, e1, e2, e3, e4, e5, e6, e7]
      rfl
   obtain ⟨vf, hvf⟩ : ∃ vf : Nat -> Value, ∀ i (h1 : i < ks.length), ItsK B (k - 1) w (vf i) ks[i].kids /\ ∀ b off cap, v = .slice (some ⟨b, off, none⟩) ks.length cap -> ∀ cs, cs.length = 8 -> qZ7 w b (off + i * 8) cs -> cs = qQd ks[i].h (vf i) := by
    refine ⟨fun i => if h : i < ks.length then (hex i h).choose else .int .i64 0, fun i h1 => ?_⟩
    simp only [dif_pos h1]
    exact (hex i h1).choose_spec h1
   obtain ⟨V2, p1, p2⟩ := ih (k - 1) ((List.range ks.length).map vf) (by simp) (fun i a b => by
    rw [List.getElem_map, List.getElem_range]
    exact (hvf i a).1) hn.2 (fun y hy => hh y (List.mem_cons_of_mem _ hy))
   refine ⟨fun n => if n = h.node then v else V2 n, if_pos rfl, fun r hr => ?_⟩
   rw [rowsI] at hr
   rcases List.mem_cons.1 hr with rfl | hr
   · show qQa 8 _ B w (if h.node = h.node then v else V2 h.node) _
     rw [if_pos rfl]
     rcases hO with ⟨h0, e⟩ | ⟨b, off, cap, e1, e2, e3, e4⟩
     · exact .inl ⟨h0, by rw [e]; rfl⟩
     · refine .inr ⟨b, off, cap, by rw [List.length_map]; exact e1, by rw [List.length_map]; exact e2, e3, fun i hi => ?_⟩
       have hik : i < ks.length := by simpa using hi
       obtain ⟨g1, cs, g2, g3, _⟩ := e4 i hik
       refine ⟨g1, cs, g2, g3, ?_⟩
       rw [List.getElem_map]
       have hne : ks[i].h.node ≠ h.node := fun e => hn.1 (e ▸ hnode i hik)
       have hp := p1 i hik (by simpa using hik)
       rw [List.getElem_map, List.getElem_range] at hp
       have hhd : hd ks[i].h.node = ks[i].h := hh _ (List.mem_cons_of_mem _ (by
        rw [qZz]
        exact List.mem_flatMap.2 ⟨ks[i], List.getElem_mem hik, by rw [qVj]; exact List.mem_cons_self⟩))
       show cs = qQd (hd ks[i].h.node) (if ks[i].h.node = h.node then v else V2 ks[i].h.node)
       rw [hhd, if_neg hne, hp]
       exact (hvf i hik).2 b off cap e1 cs g2 g3
   · exact (p2.swap (V' := fun n => if n = h.node then v else V2 n) (fun r hr => ⟨if_neg (fun (e : r.1 = h.node) => hn.1 (e ▸ (qZc ks r hr).1)), fun k hk => if_neg (fun (e : k = h.node) => hn.1 (e ▸ (qZc ks r hr).2 k hk))⟩)) r hr
 · intro k vs h1 _ _ _
   exact ⟨fun _ => .int .i64 0, fun i hi => by simp at hi, fun r hr => by simp [rowsK] at hr⟩
 · intro x l hx hl k vs h1 hO hn hh
   obtain ⟨v, vs, rfl⟩ : ∃ v vs', vs = v :: vs' := by
    cases vs with
    | nil => simp at h1
    | cons v vs => exact ⟨v, vs, rfl⟩
   rw [nodesL] at hn
   rw [headsL] at hh
   obtain ⟨n1, n2, n3⟩ := List.nodup_append.1 hn
   obtain ⟨V1, p1, p2⟩ := hx k v (hO 0 (by simp) (by simp)) n1 (fun h hh1 => hh h (List.mem_append_left _ hh1))
   obtain ⟨V2, q1, q2⟩ := hl k vs (by simpa using h1) (fun i a b => hO (i + 1) (by simp; omega) (by simp; omega)) n2 (fun h hh1 => hh h (List.mem_append_right _ hh1))
   refine ⟨fun n => if n ∈ nodesI x then V1 n else V2 n, fun i hi hi' => ?_, fun r hr => ?_⟩
   · cases i with
     | zero =>
       have : x.h.node ∈ nodesI x := by rw [qQm]; exact List.mem_cons_self
       simp only [List.getElem_cons_zero, if_pos this]
       exact p1
     | succ i =>
       have hi2 : i < l.length := by simpa using hi
       have hm : l[i].h.node ∈ nodesL l := by
        rw [qQl]
        exact List.mem_flatMap.2 ⟨l[i], List.getElem_mem hi2, by rw [qQm]; exact List.mem_cons_self⟩
       have : l[i].h.node ∉ nodesI x := fun h => n3 _ h _ hm rfl
       simp only [List.getElem_cons_succ, if_neg this]
       exact q1 i hi2 (by simpa using hi')
   · rw [rowsK] at hr
     rcases List.mem_append.1 hr with hr | hr
     · exact (p2.swap (V' := fun n => if n ∈ nodesI x then V1 n else V2 n) (fun r hr => ⟨if_pos (qJw x r hr).1, fun k hk => if_pos ((qJw x r hr).2 k hk)⟩)) r hr
     · exact (q2.swap (V' := fun n => if n ∈ nodesI x then V1 n else V2 n) (fun r hr => ⟨if_neg (fun h => n3 _ h _ (qZc l r hr).1 rfl), fun k hk => if_neg (fun h => n3 _ h _ ((qZc l r hr).2 k hk) rfl)⟩)) r hr
theorem its_tab {B : Nat -> Prop} {k : Nat} {w : World} {v : Value} {l : List It} (hO : ItsK B k w v l) (h : Alike l) : ∃ V, V (-1) = v /\ qJa B w V (qQb l) := by
 have hm1 : (-1 : Int) ∉ nodesL l := fun e => by have := h.2 _ e; omega
 obtain ⟨V, h1, h2⟩ := (its_rows B w (fun n => if n = -1 then { node := -1 } else qZe l n)).1 (.mk { node := -1 } l) k v hO (by
  rw [nodesI]
  exact List.nodup_cons.2 ⟨hm1, h.1⟩) (fun y hy => by
  rw [headsI] at hy
  rcases List.mem_cons.1 hy with rfl | hy
  · simp
  · have : y.node ∈ nodesL l := by rw [<- qQ1.2]; exact List.mem_map_of_mem hy
    have hne : y.node ≠ -1 := fun e => hm1 (e ▸ this)
    simp only [if_neg hne]
    exact qWs h hy)
 refine ⟨V, h1, fun n hn => ?_⟩
 have hr : ∃ r ∈ rowsI (.mk { node := -1 } l), r.1 = n := by
  rcases hn with rfl | hn
  · exact ⟨(-1, l.map (fun x => x.h.node)), by rw [rowsI]; exact List.mem_cons_self, rfl⟩
  · have hk := (qQo h).1 hn
    rw [<- qQt.2] at hk
    obtain ⟨r, hr, e⟩ := List.mem_map.1 hk
    exact ⟨r, by rw [rowsI]; exact List.mem_cons_of_mem _ hr, e⟩
 obtain ⟨r, hr, rfl⟩ := hr
 have hk : (qQb l).kids r.1 = r.2 := qQx h (by rw [rowsI] at hr; exact hr)
 rw [hk]
 refine (h2 r hr).mono (fun _ h => h) (fun cs k hkr e => ?_)
 have : Has (qQb l) k := ((qZf h).has_kid (n := r.1) (by rw [hk]; exact hkr)).1
 have hne : k ≠ -1 := by have := this.ge (qZf h); omega
 simp only [if_neg hne] at e
 exact e
end Go.Proofs.Ytklbmkaomojciaa
