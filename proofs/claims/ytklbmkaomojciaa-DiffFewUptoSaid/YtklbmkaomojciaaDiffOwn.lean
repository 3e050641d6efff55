/- diff.one, for the events that go: walked. -/
import Derived.Test.YtklbmkaomojciaaDiffMove
set_option maxRecDepth 100000
set_option maxHeartbeats 1000000
namespace Go.Proofs.Ytklbmkaomojciaa
open Go.RowKit
theorem qKm {base : Nat} {w : World} {S : Int -> Sv} {lab : Nat -> Int} {t t' : Fl} (hT : qQg base w S lab t) (hw : Wf t) (hh : ∀ n, Has t n -> (t.head n).node = n) {box : Addr} (hb : BoxOk w box S t) {e : Evt} {eb eo : Nat} (hE : EvC w eb eo e (.slice none 0 0)) (hG : Goes t e t')
 (hl : ∀ n, (t.kids n).length <= 1000000000) (hbase : base <= w.heap.size) (heb : eb ≠ box.block) (hen : ∀ n, (n = -1 ∨ Has t n) -> (S n).v.ownBlock ≠ some eb) :
 Calls Try.prog 15 #[.pointer (some box), .pointer (some ⟨eb, eo, none⟩)] w fun r w' => r = .returned (.int .i64 0) /\ Grew base box w S t w' t' := by
 rcases hG with ⟨n, hd, tw, i, rfl, h1, h2, h3, h4, rfl⟩ | ⟨x, tw, i, it, rfl, h1, h2, h3, h4, rfl⟩ | ⟨x, tw, a, it, rfl, h1, rfl⟩ | ⟨x, tw, a, hd, rfl, h2, h1, rfl⟩
 · have c := lH (qYv hT hw hh hb hE h1 h2 h3 h4 (hl _) hbase)
   have ek : w.cell? ⟨eb, eo, none⟩ = some (.int .i64 2) := hE.kind
   clear hE hT hb hh h1 h3 h4
   go_enter Try.func15, Try.ntmps15
   go_wp2_with (go_at_call 26; (with_reducible refine c.out.mono ?_); rintro r w1 ⟨rfl, g⟩; have HG := lH g; clear g)
   go_ret
   exact ⟨rfl, HG.out⟩
 · have c := lH (qX8 hT hw hh hb hE h1 h2 h3 h4 hl hbase heb hen)
   have ek : w.cell? ⟨eb, eo, none⟩ = some (.int .i64 3) := hE.kind
   clear hE hT hb hh h1 h3 h4 h2
   go_enter Try.func15, Try.ntmps15
   go_wp2_with (go_at_call 27; (with_reducible refine c.out.mono ?_); rintro r w1 ⟨rfl, g⟩; have HG := lH g; clear g)
   go_ret
   exact ⟨rfl, HG.out⟩
 · exact qX7 hT hw hh hb hE.kind hE.node h1 (hl _)
 · exact qX6 hT hw hh hb hE h1 h2
end Go.Proofs.Ytklbmkaomojciaa
namespace Go.Proofs.Ytklbmkaomojciaa
def qXw (t : Fl) : Prop := ∀ n, Has t n -> (t.head n).node = n
def Fits (L : List Int) (t : Fl) : Prop := ∀ n, Has t n -> n ∈ L
theorem qKo : ∀ (l m : List Int), l.Nodup -> (∀ x ∈ l, x ∈ m) -> l.length <= m.length := by
 intro l
 induction l with
 | nil => intro m _ _; simp
 | cons a l ih =>
   intro m hn hs
   obtain ⟨h1, h2⟩ := List.nodup_cons.1 hn
   have ha : a ∈ m := hs a (by simp)
   have := ih (m.erase a) h2 (fun x hx => (List.mem_erase_of_ne (fun (e : x = a) => h1 (e ▸ hx))).2 (hs x (by simp [hx])))
   rw [List.length_erase_of_mem ha] at this
   have hp := List.length_pos_of_mem ha
   simp only [List.length_cons]
   omega
theorem qW7 {t : Fl} (hw : Wf t) {x tw : Int} {i : Nat} (hx : Has t x) (hi : i <= (cutF t x tw).length) {n : Int} (hn : Has (qQ7 t x tw i) n) : Has t n := by
 by_cases e : n = x
 · rw [e]; exact hx
 · unfold Has qQ7 at hn
   simp only [if_neg e] at hn
   split at hn
   · rename_i e2
     rw [mem_insertIdx hi] at hn
     rcases hn with e3 | hn
     · exact absurd e3 e
     · have := ((qZ5 hw).1 hn).1
       unfold Has; rw [e2]; exact this
   · exact ((qZ5 hw).1 hn).1
theorem Goes.heads {t t' : Fl} {e : Evt} (hw : Wf t) (hh : qXw t) (hG : Goes t e t') : qXw t' := by
 rcases hG with ⟨n, hd, tw, i, rfl, h1, h2, h3, h4, rfl⟩ | ⟨x, tw, i, it, rfl, h1, h2, h3, h4, rfl⟩ | ⟨x, tw, a, it, rfl, h1, rfl⟩ | ⟨x, tw, a, hd, rfl, h2, h1, rfl⟩
 · intro m hm
   show (if m = hd.node then hd else t.head m).node = m
   split
   · rename_i e; exact e.symm
   · rename_i e; exact hh m (qYt h4 e hm)
 · exact fun m hm => hh m (qW7 hw h1 h4 hm)
 · exact fun m hm => hh m (qZ3 hw hm)
 · intro m hm
   show (if m = x then hd else t.head m).node = m
   split
   · rename_i e; rw [h2, e]
   · exact hh m hm
theorem Goes.fits {L : List Int} {t t' : Fl} {e : Evt} (hw : Wf t) (hf : Fits L t) (he : e.kind = 2 -> e.item.h.node ∈ L) (hG : Goes t e t') : Fits L t' := by
 rcases hG with ⟨n, hd, tw, i, rfl, h1, h2, h3, h4, rfl⟩ | ⟨x, tw, i, it, rfl, h1, h2, h3, h4, rfl⟩ | ⟨x, tw, a, it, rfl, h1, rfl⟩ | ⟨x, tw, a, hd, rfl, h2, h1, rfl⟩
 · intro m hm
   by_cases e : m = hd.node
   · rw [e]; exact he rfl
   · exact hf m (qYt h4 e hm)
 · exact fun m hm => hf m (qW7 hw h1 h4 hm)
 · exact fun m hm => hf m (qZ3 hw hm)
 · exact fun m hm => hf m hm
theorem Fits.len {L : List Int} {t : Fl} (hf : Fits L t) (hw : Wf t) (n : Int) : (t.kids n).length <= L.length :=
 qKo _ _ (hw.alone.once n) (fun k hk => hf k (hw.has_kid hk).1)
end Go.Proofs.Ytklbmkaomojciaa
namespace Go.Proofs.Ytklbmkaomojciaa
open Go.RowKit
theorem qJz {l : List It} (h : Alike l) : qXw (qQb l) := fun _ hn => (qJp h ((qQo h).1 hn)).2
theorem qJk {l : List It} (h : Alike l) {L : List Int} (hL : ∀ m, m ∈ nodesL l -> m ∈ L) : Fits L (qQb l) := fun _ hn => hL _ ((qQo h).1 hn)
theorem qWs {l : List It} (h : Alike l) {y : Hd} (hy : y ∈ headsL l) : qZe l y.node = y := by
 have hn : y.node ∈ nodesL l := by rw [<- qQ1.2]; exact List.mem_map_of_mem hy
 obtain ⟨h1, h2⟩ := qJp h hn
 have hnd : ((headsL l).map (·.node)).Nodup := by rw [qQ1.2]; exact h.1
 clear hn
 revert hnd h1 h2 hy
 generalize qZe l y.node = z
 generalize headsL l = R
 intro hy h1 h2 hnd
 induction R with
 | nil => simp at hy
 | cons a R ih =>
   rw [List.map_cons, List.nodup_cons] at hnd
   rcases List.mem_cons.1 hy with e1 | hy2
   · rcases List.mem_cons.1 h1 with e2 | h12
     · rw [e1, e2]
     · refine absurd ?_ hnd.1
       rw [<- e1, <- h2]
       exact List.mem_map_of_mem h12
   · rcases List.mem_cons.1 h1 with e2 | h12
     · refine absurd ?_ hnd.1
       rw [<- e2, h2]
       exact List.mem_map_of_mem hy2
     · exact ih hy2 h12 hnd.2
theorem qGj {base k : Nat} {w : World} {v : Value} {l : List It} {B : List Nat} (hO : OwnT base k w v l B) (h : Alike l) : ∃ S lab, (S (-1)).v = v /\ qQg base w S lab (qQb l) := by
 have hm1 : (-1 : Int) ∉ nodesL l := fun e => by have := h.2 _ e; omega
 obtain ⟨S, lab, h1, h2⟩ := (tab_rows base w (fun n => if n = -1 then { node := -1 } else qZe l n)).1 (.mk { node := -1 } l) k v B hO (by
  rw [nodesI]
  exact List.nodup_cons.2 ⟨hm1, h.1⟩) (fun y hy => by
  rw [headsI] at hy
  rcases List.mem_cons.1 hy with rfl | hy
  · simp
  · have : y.node ∈ nodesL l := by rw [<- qQ1.2]; exact List.mem_map_of_mem hy
    have hne : y.node ≠ -1 := fun e => hm1 (e ▸ this)
    simp only [if_neg hne]
    exact qWs h hy)
 refine ⟨S, lab, h1, fun n hn => ?_⟩
 have hr : ∃ r ∈ rowsI (.mk { node := -1 } l), r.1 = n := by
  rcases hn with rfl | hn
  · exact ⟨(-1, l.map (fun x => x.h.node)), by rw [rowsI]; exact List.mem_cons_self, rfl⟩
  · have hk := (qQo h).1 hn
    rw [<- qQt.2] at hk
    obtain ⟨r, hr, e⟩ := List.mem_map.1 hk
    exact ⟨r, by rw [rowsI]; exact List.mem_cons_of_mem _ hr, e⟩
 obtain ⟨r, hr, rfl⟩ := hr
 obtain ⟨q1, q2⟩ := h2 r hr
 have hk : (qQb l).kids r.1 = r.2 := qQx h (by rw [rowsI] at hr; exact hr)
 have hm : ((qQb l).kids r.1).map (icOf (qQb l) S) = r.2.map (fun k => (⟨(if k = -1 then { node := -1 } else qZe l k), (S k).a, (S k).n, (S k).c⟩ : Ic)) := by
  rw [hk]
  refine List.map_congr_left (fun k hkr => ?_)
  have : Has (qQb l) k := ((qZf h).has_kid (n := r.1) (by rw [hk]; exact hkr)).1
  have hne : k ≠ -1 := by have := this.ge (qZf h); omega
  unfold icOf
  simp only [if_neg hne]
  rfl
 rw [hm]
 exact ⟨q1, fun b hb => (q2 b hb).1⟩
end Go.Proofs.Ytklbmkaomojciaa
