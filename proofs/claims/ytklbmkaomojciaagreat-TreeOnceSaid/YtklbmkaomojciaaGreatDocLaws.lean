/- Laws of chapters 3, 5 and 7: plain ones, and walks of law packages. -/
import Derived.Test.YtklbmkaomojciaaGreatFlatShown
import Derived.Test.YtklbmkaomojciaaGreatRefApply
import Derived.Test.YtklbmkaomojciaaGreatMaps
import Derived.Test.YtklbmkaomojciaaGreatPlains
import Derived.Test.YtklbmkaomojciaaGreatRefRole
namespace Go.Proofs.YtklbmkaomojciaaGreat
open Go.RowKit
theorem qZi.on {w w' : World} {v : Value} {l : List Int} (h : qZi w.heap.size w v l) (hb : Bel w w') : qZi w'.heap.size w' v l := (qQa.later h qQc hb (Nat.le_refl _)).mono (fun _ h => Nat.lt_of_lt_of_le h hb.size) (fun _ _ _ h => h)
end Go.Proofs.YtklbmkaomojciaaGreat
namespace Go.Proofs.YtklbmkaomojciaaGreat
open Go.RowKit
def chgCells (x : Chg) : List Value := [.int .i64 x.kind, .int .i64 x.node, .int .i64 x.dest, .int .i64 x.before, .string ⟨x.name.toArray⟩, .string ⟨x.value.toArray⟩]
theorem chgs_lit (w : World) (L : List Chg) (e : TypeId) (g n : Nat) (hg : g = w.heap.size) (hn : L.length = n) (hs : L.length <= 1000) (C : Array Value) (hC : C = (L.flatMap chgCells).toArray) : qGq (g + 1) (w.alloc (.cells C e)) (.slice (some ⟨g, 0, none⟩) n n) L := by
 subst hn hC
 have hb := Blk.new w g hg (L.flatMap chgCells) e
 refine .inr ⟨g, 0, L.length, rfl, Nat.le_refl _, by omega, fun i hi => ⟨Nat.lt_succ_self _, chgCells L[i], rfl, fun j u hu => ?_, rfl⟩⟩
 rw [hb.cell, Nat.zero_add]
 have hx : ∀ x ∈ L.map chgCells, x.length = 6 := by
  intro x hx
  obtain ⟨c, _, rfl⟩ := List.mem_map.1 hx
  rfl
 have := qJg hx i (by simpa using hi) j u (by simpa using hu)
 rwa [List.flatMap_def]
def hadM (l : List Int) : Int -> Option Value := fun x => if x ∈ l then some (.bool true) else none
theorem zKl {w : World} {r : Nat} {l : List Int} (h : qKj kI w r (hadM l)) (n : Int) : (Instr.lookup 59 (.map (some r)) (.int .i64 n) false).run Tryz.prog w = .ok (.bool (decide (n ∈ l))) w := by
 obtain ⟨i, h1, h2, _, _⟩ := info_parts (by kernel_rfl : (Tryz.prog.info? 4).map (fun i => (i.zero, i.size, i.bytes)) = some (some (.bool false), 1, 1))
 have := qJ2 Tryz.underlying59 (qWr Tryz.underlying3) h1 h2 h n false
 by_cases hn : n ∈ l <;> simpa [hadM, hn, kI] using this
theorem zKc {w : World} {r : Nat} {l : List Int} (h : qKj kI w r (hadM l)) (n : Int) : ∃ w', (Instr.mapUpdate 59 (.map (some r)) (.int .i64 n) (.bool true)).run Tryz.prog w = .ok () w' /\ qKj kI w' r (hadM (l ++ [n])) /\ w.grownBy w' (some r) /\ w'.heap.size = w.heap.size := by
 obtain ⟨w', h1, h2, h3, h4⟩ := qXh Tryz.underlying59 (qWr Tryz.underlying3) h n (.bool true)
 refine ⟨w', h1, ?_, h3, h4⟩
 have e : upd (hadM l) n (.bool true) = hadM (l ++ [n]) := by
  funext x
  unfold upd hadM
  by_cases hx : x = n
  · simp [hx]
  · simp [hx]
 rwa [e] at h2
end Go.Proofs.YtklbmkaomojciaaGreat
namespace Go.Proofs.YtklbmkaomojciaaGreat
section
variable {d : Dc}
end
end Go.Proofs.YtklbmkaomojciaaGreat
namespace Go.Proofs.YtklbmkaomojciaaGreat
open Go.RowKit
end Go.Proofs.YtklbmkaomojciaaGreat
namespace Go.Proofs.YtklbmkaomojciaaGreat
def noSt : St := ⟨fun _ => false, fun _ => false⟩
def qW3 (d : Dc) (C : List Clm) (n : Int) : Txt × St :=
 if (nd d n).tag = [] ∨ (kOf (qQf d n)).named = true then qQw d C 100 n false false (markM d n noSt) else ([], markM d n noSt)
def qY5 (d : Dc) (C : List Clm) (n : Int) (s : St) : Txt × St := qXw d (fun k => qQw d C 100 k true true) n descT { had := fun x => x == n, asked := s.asked }
def qG0 (d : Dc) (C : List Clm) (n : Int) (r : Txt × St) : Txt × St :=
 if (nd d n).tag ≠ [] /\ r.1 ≠ [] then (if (qY5 d C n r.2).1 = [] /\ sq d n titleT ≠ r.1 then sq d n titleT else (qY5 d C n r.2).1, (qY5 d C n r.2).2) else ([], r.2)
structure Mm where
 name : Txt := []
 about : Txt := []
 uses : List Int := []
def qWp (d : Dc) (s : St) : List Int := ((List.range d.length).map (fun k : Nat => (k : Int))).filter s.asked
def qXn (d : Dc) (C : List Clm) (n : Int) : Mm :=
 if isM d n false then ⟨(qW3 d C n).1, (qG0 d C n (qW3 d C n)).1, qWp d (qG0 d C n (qW3 d C n)).2⟩ else {}
end Go.Proofs.YtklbmkaomojciaaGreat
namespace Go.Proofs.YtklbmkaomojciaaGreat
def alvlT : Txt := [97, 114, 105, 97, 45, 108, 101, 118, 101, 108]
def qYr : Txt := [97, 114, 105, 97, 45, 99, 104, 101, 99, 107, 101, 100]
def qVh : Txt := [97, 114, 105, 97, 45, 100, 105, 115, 97, 98, 108, 101, 100]
def chkT : Txt := [99, 104, 101, 99, 107, 101, 100]
def zX3 : List Txt := [altT, labelT, titleT, valueT, alvlT, qYr, qVh, chkT]
structure SameBut (d y : Dc) (k : Int) : Prop where
 len : y.length = d.length
 live : ∀ n, (nd y n).live = (nd d n).live
 tag : ∀ n, (nd y n).tag = (nd d n).tag
 up : ∀ n, (nd y n).up = (nd d n).up
 kids : ∀ n, (nd y n).kids = (nd d n).kids
 hasS : ∀ n, (nd y n).hasS = (nd d n).hasS
 shadow : ∀ n, (nd y n).shadow = (nd d n).shadow
 inS : ∀ n, (nd y n).inS = (nd d n).inS
 attr : ∀ n s, s ∉ zX3 -> qZw y n s = qZw d n s
 rest : ∀ n, 0 <= n -> n ≠ k -> nd y n = nd d n
section
variable {d y : Dc} {k : Int}
theorem SameBut.isM (H : SameBut d y k) (n : Int) (el : Bool) : isM y n el = isM d n el := by
 unfold Proofs.YtklbmkaomojciaaGreat.isM
 rw [H.len, H.live, H.tag]
theorem SameBut.said (H : SameBut d y k) (n : Int) {s : Txt} (hs : s ∉ zX3) : said y n s = said d n s := by
 unfold Proofs.YtklbmkaomojciaaGreat.said
 rw [H.attr n s hs]
theorem SameBut.hasA (H : SameBut d y k) (n : Int) {s : Txt} (hs : s ∉ zX3) : hasA y n s = hasA d n s := by
 unfold Proofs.YtklbmkaomojciaaGreat.hasA
 rw [H.attr n s hs]
theorem SameBut.attrAt (H : SameBut d y k) {n : Int} (h0 : 0 <= n) (hn : n ≠ k) (s : Txt) : qZw y n s = qZw d n s := by
 unfold qZw
 rw [H.isM, H.rest n h0 hn]
theorem SameBut.saidAt (H : SameBut d y k) {n : Int} (h0 : 0 <= n) (hn : n ≠ k) (s : Txt) : Proofs.YtklbmkaomojciaaGreat.said y n s = Proofs.YtklbmkaomojciaaGreat.said d n s := by
 unfold Proofs.YtklbmkaomojciaaGreat.said
 rw [H.attrAt h0 hn]
theorem SameBut.sqAt (H : SameBut d y k) {n : Int} (h0 : 0 <= n) (hn : n ≠ k) (s : Txt) : sq y n s = sq d n s := by
 unfold sq
 rw [H.saidAt h0 hn]
theorem SameBut.hasAt (H : SameBut d y k) {n : Int} (h0 : 0 <= n) (hn : n ≠ k) (s : Txt) : Proofs.YtklbmkaomojciaaGreat.hasA y n s = Proofs.YtklbmkaomojciaaGreat.hasA d n s := by
 unfold Proofs.YtklbmkaomojciaaGreat.hasA
 rw [H.attrAt h0 hn]
theorem SameBut.path (H : SameBut d y k) : ∀ f n, pathF y f n = pathF d f n := by
 intro f
 induction f with
 | zero => intro n; rfl
 | succ f ih => intro n; unfold pathF; rw [H.isM, H.up, ih]
theorem SameBut.scope (H : SameBut d y k) (n : Int) : qQr y n = qQr d n := by
 unfold qQr qKe
 rw [H.len, H.path]
 simp only [H.inS, H.up]
theorem SameBut.allF (H : SameBut d y k) : ∀ f n, allF y f n = allF d f n := by
 intro f
 induction f with
 | zero => intro n; rfl
 | succ f ih =>
   intro n
   have e : Proofs.YtklbmkaomojciaaGreat.allF y f = Proofs.YtklbmkaomojciaaGreat.allF d f := funext ih
   unfold Proofs.YtklbmkaomojciaaGreat.allF
   rw [H.isM, H.shadow, H.kids, e]
theorem SameBut.allM (H : SameBut d y k) : allM y = allM d := funext (H.allF 100)
theorem SameBut.slotR (H : SameBut d y k) : slotR y = slotR d := by
 funext n
 unfold Proofs.YtklbmkaomojciaaGreat.slotR
 rw [H.isM, H.inS, H.up, H.hasS, H.shadow, H.allM, H.said n (by decide)]
 have e : ∀ a b, qZ9 y a b = qZ9 d a b := fun a b => by
  funext z
  unfold qZ9
  rw [H.tag, H.scope, H.said z (by decide)]
 rw [e]
theorem SameBut.givenR (H : SameBut d y k) : givenR y = givenR d := by
 funext n
 unfold Proofs.YtklbmkaomojciaaGreat.givenR qJt
 rw [H.isM, H.tag, H.scope, H.kids, H.slotR]
theorem SameBut.kidsR (H : SameBut d y k) : kidsR y = kidsR d := by
 funext n
 unfold Proofs.YtklbmkaomojciaaGreat.kidsR
 rw [H.isM, H.hasS, H.shadow, H.kids, H.givenR]
theorem SameBut.upR (H : SameBut d y k) : upR y = upR d := by
 funext n
 unfold Proofs.YtklbmkaomojciaaGreat.upR
 rw [H.kidsR, H.len]
theorem SameBut.ups (H : SameBut d y k) (n : Int) : ups y n = ups d n := by
 unfold Proofs.YtklbmkaomojciaaGreat.ups
 rw [H.upR]
theorem SameBut.shownR (H : SameBut d y k) : shownR y = shownR d := by
 unfold Proofs.YtklbmkaomojciaaGreat.shownR
 rw [H.kidsR]
theorem SameBut.findD (H : SameBut d y k) : findD y = findD d := by
 funext n id
 unfold Proofs.YtklbmkaomojciaaGreat.findD
 rw [H.isM, H.allM]
 have e : ∀ z, Proofs.YtklbmkaomojciaaGreat.said y z idT = Proofs.YtklbmkaomojciaaGreat.said d z idT := fun z => H.said z (by decide)
 simp only [H.scope, e]
theorem SameBut.hid (H : SameBut d y k) (n : Int) : qQs y n = qQs d n := by
 have e : ∀ f n, hidF y f n = hidF d f n := by
  intro f
  induction f with
  | zero => intro n; rfl
  | succ f ih =>
    intro n
    unfold hidF offM sq
    rw [H.isM, H.hasA n (by decide), H.said n (by decide), H.upR, ih]
 exact e 100 n
theorem SameBut.labelled (H : SameBut d y k) {n : Int} (h0 : 0 <= n) (hn : n ≠ k) : qQ6 y n = qQ6 d n := by
 unfold qQ6
 rw [H.sqAt h0 hn, H.sqAt h0 hn]
theorem SameBut.base (H : SameBut d y k) {n : Int} (h0 : 0 <= n) (hn : n ≠ k) : qJ5 y n = qJ5 d n := by
 have e1 : qY4 y n = qY4 d n := by
  unfold qY4
  rw [H.labelled h0 hn, H.saidAt h0 hn]
 have e2 : qQ9 y n = qQ9 d n := by
  unfold qQ9
  rw [H.tag, H.labelled h0 hn, H.sqAt h0 hn, H.sqAt h0 hn, H.sqAt h0 hn, H.hasAt h0 hn, H.hasAt h0 hn]
 unfold qJ5
 rw [e1, e2]
theorem SameBut.rn (H : SameBut d y k) : ∀ f n, k ∉ qZ0 (Proofs.YtklbmkaomojciaaGreat.upR d) f n -> rnF y f n = rnF d f n := by
 intro f
 induction f with
 | zero => intro n _; rfl
 | succ f ih =>
   intro n h
   rw [qFh, qFh]
   by_cases h0 : n < 0
   · rw [if_pos h0, if_pos h0]
   · rw [if_neg h0, if_neg h0, H.upR]
     unfold qZ0 at h
     rw [if_neg h0] at h
     simp only [List.mem_cons, not_or] at h
     rw [ih _ h.2]
     unfold zZt
     rw [H.isM, H.tag, H.base (by omega) (fun e => h.1 e.symm)]
theorem SameBut.role (H : SameBut d y k) {n : Int} (h : k ∉ Proofs.YtklbmkaomojciaaGreat.ups d n) : qQf y n = qQf d n := by
 unfold qQf
 rw [H.rn 100 n h]
theorem qBr {one : Int -> St -> Txt × St} (h1 : ∀ k s x, s.asked x = true -> (one k s).2.asked x = true) : ∀ (ks : List Int) (s : St) (x : Int), s.asked x = true -> (eachF one ks s).2.asked x = true := by
 intro ks
 induction ks with
 | nil => intro s x h; exact h
 | cons k ks ih =>
   intro s x h
   unfold eachF
   split
   · exact ih _ _ (h1 _ _ _ h)
   · exact ih _ _ h
theorem qGp {one : Int -> Bool -> St -> Txt × St} (h1 : ∀ k l s x, s.asked x = true -> (one k l s).2.asked x = true) {n : Int} {w : Bool} {s : St} {x : Int} (h : s.asked x = true) : (qFq d one n w s).2.asked x = true := by
 unfold qFq
 split
 · exact h
 · exact qBr (fun k s x h => h1 k true s x h) _ _ _ h
theorem zXg {one : Int -> St -> Txt × St} (h1 : ∀ k s x, s.asked x = true -> (one k s).2.asked x = true) {n : Int} {s : St} {x : Int} (h : s.asked x = true) : (qXa d one n s).2.asked x = true := by
 unfold qXa
 split
 · exact h
 · split
   · split
     · exact h1 _ _ _ h
     · exact h
   · exact h
theorem qGs {C : List Clm} {one : Int -> Bool -> St -> Txt × St} (h1 : ∀ k l s x, s.asked x = true -> (one k l s).2.asked x = true) {n : Int} {w li : Bool} {s : St} {x : Int} (h : s.asked x = true) : (qDj d C one n w li s).2.asked x = true := by
 unfold qDj
 split
 · exact qBr (fun k s x h => h1 k li s x h) _ _ _ h
 · exact h
theorem zJ1 {C : List Clm} {one : Int -> Bool -> St -> Txt × St} (h1 : ∀ k l s x, s.asked x = true -> (one k l s).2.asked x = true) {n : Int} {w li : Bool} {s : St} {x : Int} (h : s.asked x = true) : (zYd d C one n w li s).2.asked x = true := by
 have h2 := zXg (d := d) (n := n) (fun k s x h => h1 k false s x h) h
 unfold zYd
 split
 · exact h
 · split
   · exact h
   · split
     · exact h2
     · split
       · exact qGs h1 h2
       · exact qGs h1 h2
theorem zKe {C : List Clm} {one : Int -> Bool -> St -> Txt × St} (h1 : ∀ k l s x, s.asked x = true -> (one k l s).2.asked x = true) {n : Int} {w li : Bool} {s : St} {x : Int} (h : (markM d n s).asked x = true) : (qYm d C one n w li s).2.asked x = true := by
 unfold qYm
 split
 · exact h
 · split
   · exact h
   · split
     · exact qGp h1 h
     · exact zJ1 h1 (qGp h1 h)
theorem zXy {n : Int} {s : St} {x : Int} (h : s.asked x = true) : (markM d n s).asked x = true := by
 simp [markM, h]
theorem qD7 {C : List Clm} : ∀ (f : Nat) (n : Int) (w l : Bool) (s : St) (x : Int), s.asked x = true -> (qQw d C f n w l s).2.asked x = true := by
 intro f
 induction f with
 | zero => intro n w l s x h; exact h
 | succ f ih =>
   intro n w l s x h
   rw [zZg]
   exact zKe (fun k l s x h => ih k true l s x h) (zXy h)
end
end Go.Proofs.YtklbmkaomojciaaGreat
