/- Laws of chapters 3, 5 and 7: plain ones, and walks of law packages. -/
import Derived.Test.YtklbmkaomojciaaGreatFlatShown
import Derived.Test.YtklbmkaomojciaaGreatStepCall
import Derived.Test.YtklbmkaomojciaaGreatMaps
import Derived.Test.YtklbmkaomojciaaGreatPlains
import Derived.Test.YtklbmkaomojciaaGreatRefRole
namespace Go.Proofs.YtklbmkaomojciaaGreat
open Go.RowKit
theorem qZi.on {w w' : World} {v : Value} {l : List Int} (h : qZi w.heap.size w v l) (hb : Bel w w') : qZi w'.heap.size w' v l := (qQa.later h qQd hb (Nat.le_refl _)).mono (fun _ h => Nat.lt_of_lt_of_le h hb.size) (fun _ _ _ h => h)
end Go.Proofs.YtklbmkaomojciaaGreat
namespace Go.Proofs.YtklbmkaomojciaaGreat
open Go.RowKit
end Go.Proofs.YtklbmkaomojciaaGreat
namespace Go.Proofs.YtklbmkaomojciaaGreat
section
variable {d : Dc}
end
end Go.Proofs.YtklbmkaomojciaaGreat
namespace Go.Proofs.YtklbmkaomojciaaGreat
open Go.RowKit
end Go.Proofs.YtklbmkaomojciaaGreat
namespace Go.Proofs.YtklbmkaomojciaaGreat
def noSt : St := ⟨fun _ => false, fun _ => false⟩
def qWp (d : Dc) (C : List Clm) (n : Int) : Txt × St :=
 if (nd d n).tag = [] ∨ (kOf (qQf d n)).named = true then qQi d C 100 n false false (markM d n noSt) else ([], markM d n noSt)
def qYg (d : Dc) (C : List Clm) (n : Int) (s : St) : Txt × St := qK1 d (fun k => qQi d C 100 k true true) n descT { had := fun x => x == n, asked := s.asked }
def qH1 (d : Dc) (C : List Clm) (n : Int) (r : Txt × St) : Txt × St :=
 if (nd d n).tag ≠ [] /\ r.1 ≠ [] then (if (qYg d C n r.2).1 = [] /\ sq d n titleT ≠ r.1 then sq d n titleT else (qYg d C n r.2).1, (qYg d C n r.2).2) else ([], r.2)
structure Mm where
 name : Txt := []
 about : Txt := []
 uses : List Int := []
def qVd (d : Dc) (s : St) : List Int := ((List.range d.length).map (fun k : Nat => (k : Int))).filter s.asked
def qZf (d : Dc) (C : List Clm) (n : Int) : Mm :=
 if isM d n false then ⟨(qWp d C n).1, (qH1 d C n (qWp d C n)).1, qVd d (qH1 d C n (qWp d C n)).2⟩ else {}
end Go.Proofs.YtklbmkaomojciaaGreat
namespace Go.Proofs.YtklbmkaomojciaaGreat
def alvlT : Txt := [97, 114, 105, 97, 45, 108, 101, 118, 101, 108]
def qX1 : Txt := [97, 114, 105, 97, 45, 99, 104, 101, 99, 107, 101, 100]
def qYc : Txt := [97, 114, 105, 97, 45, 100, 105, 115, 97, 98, 108, 101, 100]
def chkT : Txt := [99, 104, 101, 99, 107, 101, 100]
def zW7 : List Txt := [altT, labelT, titleT, valueT, alvlT, qX1, qYc, chkT]
structure SameBut (d y : Dc) (k : Int) : Prop where
 len : y.length = d.length
 live : ∀ n, (nd y n).live = (nd d n).live
 tag : ∀ n, (nd y n).tag = (nd d n).tag
 up : ∀ n, (nd y n).up = (nd d n).up
 kids : ∀ n, (nd y n).kids = (nd d n).kids
 hasS : ∀ n, (nd y n).hasS = (nd d n).hasS
 shadow : ∀ n, (nd y n).shadow = (nd d n).shadow
 inS : ∀ n, (nd y n).inS = (nd d n).inS
 attr : ∀ n s, s ∉ zW7 -> qZ5 y n s = qZ5 d n s
 rest : ∀ n, 0 <= n -> n ≠ k -> nd y n = nd d n
section
variable {d y : Dc} {k : Int}
theorem SameBut.isM (H : SameBut d y k) (n : Int) (el : Bool) : isM y n el = isM d n el := by
 unfold Proofs.YtklbmkaomojciaaGreat.isM
 rw [H.len, H.live, H.tag]
theorem SameBut.said (H : SameBut d y k) (n : Int) {s : Txt} (hs : s ∉ zW7) : said y n s = said d n s := by
 unfold Proofs.YtklbmkaomojciaaGreat.said
 rw [H.attr n s hs]
theorem SameBut.hasA (H : SameBut d y k) (n : Int) {s : Txt} (hs : s ∉ zW7) : hasA y n s = hasA d n s := by
 unfold Proofs.YtklbmkaomojciaaGreat.hasA
 rw [H.attr n s hs]
theorem SameBut.attrAt (H : SameBut d y k) {n : Int} (h0 : 0 <= n) (hn : n ≠ k) (s : Txt) : qZ5 y n s = qZ5 d n s := by
 unfold qZ5
 rw [H.isM, H.rest n h0 hn]
theorem SameBut.saidAt (H : SameBut d y k) {n : Int} (h0 : 0 <= n) (hn : n ≠ k) (s : Txt) : Proofs.YtklbmkaomojciaaGreat.said y n s = Proofs.YtklbmkaomojciaaGreat.said d n s := by
 unfold Proofs.YtklbmkaomojciaaGreat.said
 rw [H.attrAt h0 hn]
theorem SameBut.sqAt (H : SameBut d y k) {n : Int} (h0 : 0 <= n) (hn : n ≠ k) (s : Txt) : sq y n s = sq d n s := by
 unfold sq
 rw [H.saidAt h0 hn]
theorem SameBut.hasAt (H : SameBut d y k) {n : Int} (h0 : 0 <= n) (hn : n ≠ k) (s : Txt) : Proofs.YtklbmkaomojciaaGreat.hasA y n s = Proofs.YtklbmkaomojciaaGreat.hasA d n s := by
 unfold Proofs.YtklbmkaomojciaaGreat.hasA
 rw [H.attrAt h0 hn]
theorem SameBut.path (H : SameBut d y k) : ∀ f n, pathF y f n = pathF d f n := by
 intro f
 induction f with
 | zero => intro n; rfl
 | succ f ih => intro n; unfold pathF; rw [H.isM, H.up, ih]
theorem SameBut.scope (H : SameBut d y k) (n : Int) : qQo y n = qQo d n := by
 unfold qQo qXh
 rw [H.len, H.path]
 simp only [H.inS, H.up]
theorem SameBut.allF (H : SameBut d y k) : ∀ f n, allF y f n = allF d f n := by
 intro f
 induction f with
 | zero => intro n; rfl
 | succ f ih =>
   intro n
   have e : Proofs.YtklbmkaomojciaaGreat.allF y f = Proofs.YtklbmkaomojciaaGreat.allF d f := funext ih
   unfold Proofs.YtklbmkaomojciaaGreat.allF
   rw [H.isM, H.shadow, H.kids, e]
theorem SameBut.allM (H : SameBut d y k) : allM y = allM d := funext (H.allF 100)
theorem SameBut.slotR (H : SameBut d y k) : slotR y = slotR d := by
 funext n
 unfold Proofs.YtklbmkaomojciaaGreat.slotR
 rw [H.isM, H.inS, H.up, H.hasS, H.shadow, H.allM, H.said n (by decide)]
 have e : ∀ a b, qJu y a b = qJu d a b := fun a b => by
  funext z
  unfold qJu
  rw [H.tag, H.scope, H.said z (by decide)]
 rw [e]
theorem SameBut.givenR (H : SameBut d y k) : givenR y = givenR d := by
 funext n
 unfold Proofs.YtklbmkaomojciaaGreat.givenR qKv
 rw [H.isM, H.tag, H.scope, H.kids, H.slotR]
theorem SameBut.kidsR (H : SameBut d y k) : kidsR y = kidsR d := by
 funext n
 unfold Proofs.YtklbmkaomojciaaGreat.kidsR
 rw [H.isM, H.hasS, H.shadow, H.kids, H.givenR]
theorem SameBut.upR (H : SameBut d y k) : upR y = upR d := by
 funext n
 unfold Proofs.YtklbmkaomojciaaGreat.upR
 rw [H.kidsR, H.len]
theorem SameBut.ups (H : SameBut d y k) (n : Int) : ups y n = ups d n := by
 unfold Proofs.YtklbmkaomojciaaGreat.ups
 rw [H.upR]
theorem SameBut.shownR (H : SameBut d y k) : shownR y = shownR d := by
 unfold Proofs.YtklbmkaomojciaaGreat.shownR
 rw [H.kidsR]
theorem SameBut.findD (H : SameBut d y k) : findD y = findD d := by
 funext n id
 unfold Proofs.YtklbmkaomojciaaGreat.findD
 rw [H.isM, H.allM]
 have e : ∀ z, Proofs.YtklbmkaomojciaaGreat.said y z idT = Proofs.YtklbmkaomojciaaGreat.said d z idT := fun z => H.said z (by decide)
 simp only [H.scope, e]
theorem SameBut.hid (H : SameBut d y k) (n : Int) : qQw y n = qQw d n := by
 have e : ∀ f n, hidF y f n = hidF d f n := by
  intro f
  induction f with
  | zero => intro n; rfl
  | succ f ih =>
    intro n
    unfold hidF offM sq
    rw [H.isM, H.hasA n (by decide), H.said n (by decide), H.upR, ih]
 exact e 100 n
theorem SameBut.labelled (H : SameBut d y k) {n : Int} (h0 : 0 <= n) (hn : n ≠ k) : qQ3 y n = qQ3 d n := by
 unfold qQ3
 rw [H.sqAt h0 hn, H.sqAt h0 hn]
theorem SameBut.base (H : SameBut d y k) {n : Int} (h0 : 0 <= n) (hn : n ≠ k) : qJg y n = qJg d n := by
 have e1 : qWw y n = qWw d n := by
  unfold qWw
  rw [H.labelled h0 hn, H.saidAt h0 hn]
 have e2 : qZd y n = qZd d n := by
  unfold qZd
  rw [H.tag, H.labelled h0 hn, H.sqAt h0 hn, H.sqAt h0 hn, H.sqAt h0 hn, H.hasAt h0 hn, H.hasAt h0 hn]
 unfold qJg
 rw [e1, e2]
theorem SameBut.rn (H : SameBut d y k) : ∀ f n, k ∉ qJj (Proofs.YtklbmkaomojciaaGreat.upR d) f n -> rnF y f n = rnF d f n := by
 intro f
 induction f with
 | zero => intro n _; rfl
 | succ f ih =>
   intro n h
   rw [zQh, zQh]
   by_cases h0 : n < 0
   · rw [if_pos h0, if_pos h0]
   · rw [if_neg h0, if_neg h0, H.upR]
     unfold qJj at h
     rw [if_neg h0] at h
     simp only [List.mem_cons, not_or] at h
     rw [ih _ h.2]
     unfold zK7
     rw [H.isM, H.tag, H.base (by omega) (fun e => h.1 e.symm)]
theorem SameBut.role (H : SameBut d y k) {n : Int} (h : k ∉ Proofs.YtklbmkaomojciaaGreat.ups d n) : qQf y n = qQf d n := by
 unfold qQf
 rw [H.rn 100 n h]
theorem qFj {one : Int -> St -> Txt × St} (h1 : ∀ k s x, s.asked x = true -> (one k s).2.asked x = true) : ∀ (ks : List Int) (s : St) (x : Int), s.asked x = true -> (eachF one ks s).2.asked x = true := by
 intro ks
 induction ks with
 | nil => intro s x h; exact h
 | cons k ks ih =>
   intro s x h
   unfold eachF
   split
   · exact ih _ _ (h1 _ _ _ h)
   · exact ih _ _ h
theorem qD1 {one : Int -> Bool -> St -> Txt × St} (h1 : ∀ k l s x, s.asked x = true -> (one k l s).2.asked x = true) {n : Int} {w : Bool} {s : St} {x : Int} (h : s.asked x = true) : (qD9 d one n w s).2.asked x = true := by
 unfold qD9
 split
 · exact h
 · exact qFj (fun k s x h => h1 k true s x h) _ _ _ h
theorem zVw {one : Int -> St -> Txt × St} (h1 : ∀ k s x, s.asked x = true -> (one k s).2.asked x = true) {n : Int} {s : St} {x : Int} (h : s.asked x = true) : (qK5 d one n s).2.asked x = true := by
 unfold qK5
 split
 · exact h
 · split
   · split
     · exact h1 _ _ _ h
     · exact h
   · exact h
theorem qD0 {C : List Clm} {one : Int -> Bool -> St -> Txt × St} (h1 : ∀ k l s x, s.asked x = true -> (one k l s).2.asked x = true) {n : Int} {w li : Bool} {s : St} {x : Int} (h : s.asked x = true) : (zZ1 d C one n w li s).2.asked x = true := by
 unfold zZ1
 split
 · exact qFj (fun k s x h => h1 k li s x h) _ _ _ h
 · exact h
theorem zYu {C : List Clm} {one : Int -> Bool -> St -> Txt × St} (h1 : ∀ k l s x, s.asked x = true -> (one k l s).2.asked x = true) {n : Int} {w li : Bool} {s : St} {x : Int} (h : s.asked x = true) : (zV3 d C one n w li s).2.asked x = true := by
 have h2 := zVw (d := d) (n := n) (fun k s x h => h1 k false s x h) h
 unfold zV3
 split
 · exact h
 · split
   · exact h
   · split
     · exact h2
     · split
       · exact qD0 h1 h2
       · exact qD0 h1 h2
theorem zYi {C : List Clm} {one : Int -> Bool -> St -> Txt × St} (h1 : ∀ k l s x, s.asked x = true -> (one k l s).2.asked x = true) {n : Int} {w li : Bool} {s : St} {x : Int} (h : (markM d n s).asked x = true) : (qWk d C one n w li s).2.asked x = true := by
 unfold qWk
 split
 · exact h
 · split
   · exact h
   · split
     · exact qD1 h1 h
     · exact zYu h1 (qD1 h1 h)
theorem zWr {n : Int} {s : St} {x : Int} (h : s.asked x = true) : (markM d n s).asked x = true := by
 simp [markM, h]
theorem zZt {C : List Clm} : ∀ (f : Nat) (n : Int) (w l : Bool) (s : St) (x : Int), s.asked x = true -> (qQi d C f n w l s).2.asked x = true := by
 intro f
 induction f with
 | zero => intro n w l s x h; exact h
 | succ f ih =>
   intro n w l s x h
   rw [zKb]
   exact zYi (fun k l s x h => ih k true l s x h) (zWr h)
end
end Go.Proofs.YtklbmkaomojciaaGreat
