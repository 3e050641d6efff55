/- diff.one, for the events that go: walked. -/
import Derived.Test.YtklbmkaomojciaaDiffMove
set_option maxRecDepth 100000
set_option maxHeartbeats 1000000
namespace Go.Proofs.Ytklbmkaomojciaa
open Go.RowKit
theorem qJ2 {base : Nat} {w : World} {S : Int -> Sv} {lab : Nat -> Int} {t t' : Fl} (hT : qQg base w S lab t) (hw : Wf t) (hh : ∀ n, Has t n -> (t.head n).node = n) {box : Addr} (hb : BoxOk w box S t) {e : Evt} {eb eo : Nat} (hE : EvC w eb eo e (.slice none 0 0)) (hG : Goes t e t')
 (hl : ∀ n, (t.kids n).length <= 1000000000) (hbase : base <= w.heap.size) (heb : eb ≠ box.block) (hen : ∀ n, (n = -1 ∨ Has t n) -> (S n).v.ownBlock ≠ some eb) :
 Calls Try.prog 15 #[.pointer (some box), .pointer (some ⟨eb, eo, none⟩)] w fun r w' => r = .returned (.int .i64 0) /\ Grew base box w S t w' t' := by
 rcases hG with ⟨n, hd, tw, i, rfl, h1, h2, h3, h4, rfl⟩ | ⟨x, tw, i, it, rfl, h1, h2, h3, h4, rfl⟩ | ⟨x, tw, a, it, rfl, h1, rfl⟩ | ⟨x, tw, a, hd, rfl, h2, h1, rfl⟩
 · have c := lH (qYh hT hw hh hb hE h1 h2 h3 h4 (hl _) hbase)
   have ek : w.cell? ⟨eb, eo, none⟩ = some (.int .i64 2) := hE.kind
   clear hE hT hb hh h1 h3 h4
   go_enter Try.func15, Try.ntmps15
   go_wp2_with (go_at_call 26; (with_reducible refine c.out.mono ?_); rintro r w1 ⟨rfl, g⟩; have HG := lH g; clear g)
   go_ret
   exact ⟨rfl, HG.out⟩
 · have c := lH (qXl hT hw hh hb hE h1 h2 h3 h4 hl hbase heb hen)
   have ek : w.cell? ⟨eb, eo, none⟩ = some (.int .i64 3) := hE.kind
   clear hE hT hb hh h1 h3 h4 h2
   go_enter Try.func15, Try.ntmps15
   go_wp2_with (go_at_call 27; (with_reducible refine c.out.mono ?_); rintro r w1 ⟨rfl, g⟩; have HG := lH g; clear g)
   go_ret
   exact ⟨rfl, HG.out⟩
 · exact qXr hT hw hh hb hE.kind hE.node h1 (hl _)
 · exact qXq hT hw hh hb hE h1 h2
end Go.Proofs.Ytklbmkaomojciaa
namespace Go.Proofs.Ytklbmkaomojciaa
def qK5 (t : Fl) : Prop := ∀ n, Has t n -> (t.head n).node = n
def Fits (L : List Int) (t : Fl) : Prop := ∀ n, Has t n -> n ∈ L
theorem qJ7 : ∀ (l m : List Int), l.Nodup -> (∀ x ∈ l, x ∈ m) -> l.length <= m.length := by
 intro l
 induction l with
 | nil => intro m _ _; simp
 | cons a l ih =>
   intro m hn hs
   obtain ⟨h1, h2⟩ := List.nodup_cons.1 hn
   have ha : a ∈ m := hs a (by simp)
   have := ih (m.erase a) h2 (fun x hx => (List.mem_erase_of_ne (fun (e : x = a) => h1 (e ▸ hx))).2 (hs x (by simp [hx])))
   rw [List.length_erase_of_mem ha] at this
   have hp := List.length_pos_of_mem ha
   simp only [List.length_cons]
   omega
theorem qWb {t : Fl} (hw : Wf t) {x tw : Int} {i : Nat} (hx : Has t x) (hi : i <= (cutF t x tw).length) {n : Int} (hn : Has (qQ0 t x tw i) n) : Has t n := by
 by_cases e : n = x
 · rw [e]; exact hx
 · unfold Has qQ0 at hn
   simp only [if_neg e] at hn
   split at hn
   · rename_i e2
     rw [mem_insertIdx hi] at hn
     rcases hn with e3 | hn
     · exact absurd e3 e
     · have := ((qZ2 hw).1 hn).1
       unfold Has; rw [e2]; exact this
   · exact ((qZ2 hw).1 hn).1
theorem Goes.heads {t t' : Fl} {e : Evt} (hw : Wf t) (hh : qK5 t) (hG : Goes t e t') : qK5 t' := by
 rcases hG with ⟨n, hd, tw, i, rfl, h1, h2, h3, h4, rfl⟩ | ⟨x, tw, i, it, rfl, h1, h2, h3, h4, rfl⟩ | ⟨x, tw, a, it, rfl, h1, rfl⟩ | ⟨x, tw, a, hd, rfl, h2, h1, rfl⟩
 · intro m hm
   show (if m = hd.node then hd else t.head m).node = m
   split
   · rename_i e; exact e.symm
   · rename_i e; exact hh m (qYm h4 e hm)
 · exact fun m hm => hh m (qWb hw h1 h4 hm)
 · exact fun m hm => hh m (qZz hw hm)
 · intro m hm
   show (if m = x then hd else t.head m).node = m
   split
   · rename_i e; rw [h2, e]
   · exact hh m hm
theorem Goes.fits {L : List Int} {t t' : Fl} {e : Evt} (hw : Wf t) (hf : Fits L t) (he : e.kind = 2 -> e.item.h.node ∈ L) (hG : Goes t e t') : Fits L t' := by
 rcases hG with ⟨n, hd, tw, i, rfl, h1, h2, h3, h4, rfl⟩ | ⟨x, tw, i, it, rfl, h1, h2, h3, h4, rfl⟩ | ⟨x, tw, a, it, rfl, h1, rfl⟩ | ⟨x, tw, a, hd, rfl, h2, h1, rfl⟩
 · intro m hm
   by_cases e : m = hd.node
   · rw [e]; exact he rfl
   · exact hf m (qYm h4 e hm)
 · exact fun m hm => hf m (qWb hw h1 h4 hm)
 · exact fun m hm => hf m (qZz hw hm)
 · exact fun m hm => hf m hm
theorem Fits.len {L : List Int} {t : Fl} (hf : Fits L t) (hw : Wf t) (n : Int) : (t.kids n).length <= L.length :=
 qJ7 _ _ (hw.alone.once n) (fun k hk => hf k (hw.has_kid hk).1)
end Go.Proofs.Ytklbmkaomojciaa
