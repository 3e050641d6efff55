/- Laws of chapters 3, 5 and 7: plain ones, and walks of law packages. -/
import Derived.Test.YtklbmkaomojciaaGreatFlatShown
import Derived.Test.YtklbmkaomojciaaGreatRefApply
import Derived.Test.YtklbmkaomojciaaGreatMaps
import Derived.Test.YtklbmkaomojciaaGreatPlains
import Derived.Test.YtklbmkaomojciaaGreatRefRole
namespace Go.Proofs.YtklbmkaomojciaaGreat
open Go.RowKit
theorem same_true {m : Nat} {u v : Value} {a : List Int} {w : World} (hu : IntsB m w u a) (hv : IntsB m w v a) (hm : m ≤ w.heap.size) : Calls Tryz.prog 33 #[u, v] w (Rb (.bool true) w) := by
  have := refSameInts_calls m u v a a w hu hv hm
  simpa using this
theorem IntsB.on {w w' : World} {v : Value} {l : List Int} (h : IntsB w.heap.size w v l) (hb : Bel w w') : IntsB w'.heap.size w' v l := (RowAt.later h still_int hb (Nat.le_refl _)).mono (fun _ h => Nat.lt_of_lt_of_le h hb.size) (fun _ _ _ h => h)
end Go.Proofs.YtklbmkaomojciaaGreat
namespace Go.Proofs.YtklbmkaomojciaaGreat
open Go.RowKit
end Go.Proofs.YtklbmkaomojciaaGreat
namespace Go.Proofs.YtklbmkaomojciaaGreat
section
variable {d : Dc}
end
end Go.Proofs.YtklbmkaomojciaaGreat
namespace Go.Proofs.YtklbmkaomojciaaGreat
open Go.RowKit
end Go.Proofs.YtklbmkaomojciaaGreat
namespace Go.Proofs.YtklbmkaomojciaaGreat
def noSt : St := ⟨fun _ => false, fun _ => false⟩
def memo0 (d : Dc) (C : List Clm) (n : Int) : Txt × St :=
  if (nd d n).tag = [] ∨ (kOf (roleM d n)).named = true then nameF d C 100 n false false (markM d n noSt) else ([], markM d n noSt)
def descF (d : Dc) (C : List Clm) (n : Int) (s : St) : Txt × St := listedF d (fun k => nameF d C 100 k true true) n descT { had := fun x => x == n, asked := s.asked }
def memo1 (d : Dc) (C : List Clm) (n : Int) (r : Txt × St) : Txt × St :=
  if (nd d n).tag ≠ [] ∧ r.1 ≠ [] then (if (descF d C n r.2).1 = [] ∧ sq d n titleT ≠ r.1 then sq d n titleT else (descF d C n r.2).1, (descF d C n r.2).2) else ([], r.2)
structure Mm where
  name : Txt := []
  about : Txt := []
  uses : List Int := []
def usesOf (d : Dc) (s : St) : List Int := ((List.range d.length).map (fun k : Nat => (k : Int))).filter s.asked
def memoM (d : Dc) (C : List Clm) (n : Int) : Mm :=
  if isM d n false then ⟨(memo0 d C n).1, (memo1 d C n (memo0 d C n)).1, usesOf d (memo1 d C n (memo0 d C n)).2⟩ else {}
end Go.Proofs.YtklbmkaomojciaaGreat
namespace Go.Proofs.YtklbmkaomojciaaGreat
def alvlT : Txt := [97, 114, 105, 97, 45, 108, 101, 118, 101, 108]
def achkT : Txt := [97, 114, 105, 97, 45, 99, 104, 101, 99, 107, 101, 100]
def adisT : Txt := [97, 114, 105, 97, 45, 100, 105, 115, 97, 98, 108, 101, 100]
def chkT : Txt := [99, 104, 101, 99, 107, 101, 100]
def plainL : List Txt := [altT, labelT, titleT, valueT, alvlT, achkT, adisT, chkT]
structure SameBut (d y : Dc) (k : Int) : Prop where
  len : y.length = d.length
  live : ∀ n, (nd y n).live = (nd d n).live
  tag : ∀ n, (nd y n).tag = (nd d n).tag
  up : ∀ n, (nd y n).up = (nd d n).up
  kids : ∀ n, (nd y n).kids = (nd d n).kids
  hasS : ∀ n, (nd y n).hasS = (nd d n).hasS
  shadow : ∀ n, (nd y n).shadow = (nd d n).shadow
  inS : ∀ n, (nd y n).inS = (nd d n).inS
  attr : ∀ n s, s ∉ plainL → attrM y n s = attrM d n s
  rest : ∀ n, 0 ≤ n → n ≠ k → nd y n = nd d n
section
variable {d y : Dc} {k : Int}
theorem SameBut.isM (H : SameBut d y k) (n : Int) (el : Bool) : isM y n el = isM d n el := by
  unfold Proofs.YtklbmkaomojciaaGreat.isM
  rw [H.len, H.live, H.tag]
theorem SameBut.said (H : SameBut d y k) (n : Int) {s : Txt} (hs : s ∉ plainL) : said y n s = said d n s := by
  unfold Proofs.YtklbmkaomojciaaGreat.said
  rw [H.attr n s hs]
theorem SameBut.hasA (H : SameBut d y k) (n : Int) {s : Txt} (hs : s ∉ plainL) : hasA y n s = hasA d n s := by
  unfold Proofs.YtklbmkaomojciaaGreat.hasA
  rw [H.attr n s hs]
theorem SameBut.attrAt (H : SameBut d y k) {n : Int} (h0 : 0 ≤ n) (hn : n ≠ k) (s : Txt) : attrM y n s = attrM d n s := by
  unfold attrM
  rw [H.isM, H.rest n h0 hn]
theorem SameBut.saidAt (H : SameBut d y k) {n : Int} (h0 : 0 ≤ n) (hn : n ≠ k) (s : Txt) : Proofs.YtklbmkaomojciaaGreat.said y n s = Proofs.YtklbmkaomojciaaGreat.said d n s := by
  unfold Proofs.YtklbmkaomojciaaGreat.said
  rw [H.attrAt h0 hn]
theorem SameBut.sqAt (H : SameBut d y k) {n : Int} (h0 : 0 ≤ n) (hn : n ≠ k) (s : Txt) : sq y n s = sq d n s := by
  unfold sq
  rw [H.saidAt h0 hn]
theorem SameBut.hasAt (H : SameBut d y k) {n : Int} (h0 : 0 ≤ n) (hn : n ≠ k) (s : Txt) : Proofs.YtklbmkaomojciaaGreat.hasA y n s = Proofs.YtklbmkaomojciaaGreat.hasA d n s := by
  unfold Proofs.YtklbmkaomojciaaGreat.hasA
  rw [H.attrAt h0 hn]
theorem SameBut.path (H : SameBut d y k) : ∀ f n, pathF y f n = pathF d f n := by
  intro f
  induction f with
  | zero => intro n; rfl
  | succ f ih => intro n; unfold pathF; rw [H.isM, H.up, ih]
theorem SameBut.scope (H : SameBut d y k) (n : Int) : scopeM y n = scopeM d n := by
  unfold scopeM pathM
  rw [H.len, H.path]
  simp only [H.inS, H.up]
theorem SameBut.allF (H : SameBut d y k) : ∀ f n, allF y f n = allF d f n := by
  intro f
  induction f with
  | zero => intro n; rfl
  | succ f ih =>
    intro n
    have e : Proofs.YtklbmkaomojciaaGreat.allF y f = Proofs.YtklbmkaomojciaaGreat.allF d f := funext ih
    unfold Proofs.YtklbmkaomojciaaGreat.allF
    rw [H.isM, H.shadow, H.kids, e]
theorem SameBut.allM (H : SameBut d y k) : allM y = allM d := funext (H.allF 100)
theorem SameBut.slotR (H : SameBut d y k) : slotR y = slotR d := by
  funext n
  unfold Proofs.YtklbmkaomojciaaGreat.slotR
  rw [H.isM, H.inS, H.up, H.hasS, H.shadow, H.allM, H.said n (by decide)]
  have e : ∀ a b, slotOk y a b = slotOk d a b := fun a b => by
    funext z
    unfold slotOk
    rw [H.tag, H.scope, H.said z (by decide)]
  rw [e]
theorem SameBut.givenR (H : SameBut d y k) : givenR y = givenR d := by
  funext n
  unfold Proofs.YtklbmkaomojciaaGreat.givenR isSlot
  rw [H.isM, H.tag, H.scope, H.kids, H.slotR]
theorem SameBut.kidsR (H : SameBut d y k) : kidsR y = kidsR d := by
  funext n
  unfold Proofs.YtklbmkaomojciaaGreat.kidsR
  rw [H.isM, H.hasS, H.shadow, H.kids, H.givenR]
theorem SameBut.upR (H : SameBut d y k) : upR y = upR d := by
  funext n
  unfold Proofs.YtklbmkaomojciaaGreat.upR
  rw [H.kidsR, H.len]
theorem SameBut.ups (H : SameBut d y k) (n : Int) : ups y n = ups d n := by
  unfold Proofs.YtklbmkaomojciaaGreat.ups
  rw [H.upR]
theorem SameBut.shownR (H : SameBut d y k) : shownR y = shownR d := by
  unfold Proofs.YtklbmkaomojciaaGreat.shownR
  rw [H.kidsR]
theorem SameBut.findD (H : SameBut d y k) : findD y = findD d := by
  funext n id
  unfold Proofs.YtklbmkaomojciaaGreat.findD
  rw [H.isM, H.allM]
  have e : ∀ z, Proofs.YtklbmkaomojciaaGreat.said y z idT = Proofs.YtklbmkaomojciaaGreat.said d z idT := fun z => H.said z (by decide)
  simp only [H.scope, e]
theorem SameBut.hid (H : SameBut d y k) (n : Int) : hiddenM y n = hiddenM d n := by
  have e : ∀ f n, hidF y f n = hidF d f n := by
    intro f
    induction f with
    | zero => intro n; rfl
    | succ f ih =>
      intro n
      unfold hidF offM sq
      rw [H.isM, H.hasA n (by decide), H.said n (by decide), H.upR, ih]
  exact e 100 n
theorem SameBut.labelled (H : SameBut d y k) {n : Int} (h0 : 0 ≤ n) (hn : n ≠ k) : labelledM y n = labelledM d n := by
  unfold labelledM
  rw [H.sqAt h0 hn, H.sqAt h0 hn]
theorem SameBut.base (H : SameBut d y k) {n : Int} (h0 : 0 ≤ n) (hn : n ≠ k) : baseM y n = baseM d n := by
  have e1 : askedM y n = askedM d n := by
    unfold askedM
    rw [H.labelled h0 hn, H.saidAt h0 hn]
  have e2 : tagRole y n = tagRole d n := by
    unfold tagRole
    rw [H.tag, H.labelled h0 hn, H.sqAt h0 hn, H.sqAt h0 hn, H.sqAt h0 hn, H.hasAt h0 hn, H.hasAt h0 hn]
  unfold baseM
  rw [e1, e2]
theorem each_mono {one : Int → St → Txt × St} (h1 : ∀ k s x, s.asked x = true → (one k s).2.asked x = true) : ∀ (ks : List Int) (s : St) (x : Int), s.asked x = true → (eachF one ks s).2.asked x = true := by
  intro ks
  induction ks with
  | nil => intro s x h; exact h
  | cons k ks ih =>
    intro s x h
    unfold eachF
    split
    · exact ih _ _ (h1 _ _ _ h)
    · exact ih _ _ h
theorem step1_mono {one : Int → Bool → St → Txt × St} (h1 : ∀ k l s x, s.asked x = true → (one k l s).2.asked x = true) {n : Int} {w : Bool} {s : St} {x : Int} (h : s.asked x = true) : (step1 d one n w s).2.asked x = true := by
  unfold step1
  split
  · exact h
  · exact each_mono (fun k s x h => h1 k true s x h) _ _ _ h
theorem host_mono {one : Int → St → Txt × St} (h1 : ∀ k s x, s.asked x = true → (one k s).2.asked x = true) {n : Int} {s : St} {x : Int} (h : s.asked x = true) : (hostF d one n s).2.asked x = true := by
  unfold hostF
  split
  · exact h
  · split
    · split
      · exact h1 _ _ _ h
      · exact h
    · exact h
theorem step3_mono {C : List Clm} {one : Int → Bool → St → Txt × St} (h1 : ∀ k l s x, s.asked x = true → (one k l s).2.asked x = true) {n : Int} {w li : Bool} {s : St} {x : Int} (h : s.asked x = true) : (step3 d C one n w li s).2.asked x = true := by
  unfold step3
  split
  · exact each_mono (fun k s x h => h1 k li s x h) _ _ _ h
  · exact h
theorem step2_mono {C : List Clm} {one : Int → Bool → St → Txt × St} (h1 : ∀ k l s x, s.asked x = true → (one k l s).2.asked x = true) {n : Int} {w li : Bool} {s : St} {x : Int} (h : s.asked x = true) : (step2 d C one n w li s).2.asked x = true := by
  have h2 := host_mono (d := d) (n := n) (fun k s x h => h1 k false s x h) h
  unfold step2
  split
  · exact h
  · split
    · exact h
    · split
      · exact h2
      · split
        · exact step3_mono h1 h2
        · exact step3_mono h1 h2
theorem stepN_mono {C : List Clm} {one : Int → Bool → St → Txt × St} (h1 : ∀ k l s x, s.asked x = true → (one k l s).2.asked x = true) {n : Int} {w li : Bool} {s : St} {x : Int} (h : (markM d n s).asked x = true) : (nameStep d C one n w li s).2.asked x = true := by
  unfold nameStep
  split
  · exact h
  · split
    · exact h
    · split
      · exact step1_mono h1 h
      · exact step2_mono h1 (step1_mono h1 h)
theorem mark_mono {n : Int} {s : St} {x : Int} (h : s.asked x = true) : (markM d n s).asked x = true := by
  simp [markM, h]
theorem name_mono {C : List Clm} : ∀ (f : Nat) (n : Int) (w l : Bool) (s : St) (x : Int), s.asked x = true → (nameF d C f n w l s).2.asked x = true := by
  intro f
  induction f with
  | zero => intro n w l s x h; exact h
  | succ f ih =>
    intro n w l s x h
    rw [nameF_s]
    exact stepN_mono (fun k l s x h => ih k true l s x h) (mark_mono h)
end
end Go.Proofs.YtklbmkaomojciaaGreat
