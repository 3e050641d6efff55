/- Laws of chapters 3, 5 and 7: plain ones, and walks of law packages. -/
import Derived.Test.YtklbmkaomojciaaGreatFlatShown
import Derived.Test.YtklbmkaomojciaaGreatRefApply
import Derived.Test.YtklbmkaomojciaaGreatMaps
import Derived.Test.YtklbmkaomojciaaGreatPlains
import Derived.Test.YtklbmkaomojciaaGreatRefRole
namespace Go.Proofs.YtklbmkaomojciaaGreat
open Go.RowKit
theorem qZh.on {w w' : World} {v : Value} {l : List Int} (h : qZh w.heap.size w v l) (hb : Bel w w') : qZh w'.heap.size w' v l := (qQa.later h qQd hb (Nat.le_refl _)).mono (fun _ h => Nat.lt_of_lt_of_le h hb.size) (fun _ _ _ h => h)
end Go.Proofs.YtklbmkaomojciaaGreat
namespace Go.Proofs.YtklbmkaomojciaaGreat
open Go.RowKit
def chgCells (x : Chg) : List Value := [.int .i64 x.kind, .int .i64 x.node, .int .i64 x.dest, .int .i64 x.before, .string ⟨x.name.toArray⟩, .string ⟨x.value.toArray⟩]
theorem chgs_lit (w : World) (L : List Chg) (e : TypeId) (g n : Nat) (hg : g = w.heap.size) (hn : L.length = n) (hs : L.length <= 1000) (C : Array Value) (hC : C = (L.flatMap chgCells).toArray) : qGk (g + 1) (w.alloc (.cells C e)) (.slice (some ⟨g, 0, none⟩) n n) L := by
 subst hn hC
 have hb := Blk.new w g hg (L.flatMap chgCells) e
 refine .inr ⟨g, 0, L.length, rfl, Nat.le_refl _, by omega, fun i hi => ⟨Nat.lt_succ_self _, chgCells L[i], rfl, fun j u hu => ?_, rfl⟩⟩
 rw [hb.cell, Nat.zero_add]
 have hx : ∀ x ∈ L.map chgCells, x.length = 6 := by
  intro x hx
  obtain ⟨c, _, rfl⟩ := List.mem_map.1 hx
  rfl
 have := qJm hx i (by simpa using hi) j u (by simpa using hu)
 rwa [List.flatMap_def]
end Go.Proofs.YtklbmkaomojciaaGreat
namespace Go.Proofs.YtklbmkaomojciaaGreat
section
variable {d : Dc}
end
theorem tag_in {l : List (Str × Int)} {s : Str} {n : Int} (h : tagM l s = some n) : (s, n) ∈ l := by
 induction l with
 | nil => simp [tagM] at h
 | cons p r ih =>
   obtain ⟨k, m⟩ := p
   rw [tagM] at h
   split at h
   · rename_i e; simp at h; subst e h; simp
   · exact List.mem_cons_of_mem _ (ih h)
end Go.Proofs.YtklbmkaomojciaaGreat
namespace Go.Proofs.YtklbmkaomojciaaGreat
open Go.RowKit
end Go.Proofs.YtklbmkaomojciaaGreat
namespace Go.Proofs.YtklbmkaomojciaaGreat
def noSt : St := ⟨fun _ => false, fun _ => false⟩
def qB9 (d : Dc) (C : List Clm) (n : Int) : Txt × St :=
 if (nd d n).tag = [] ∨ (kOf (qQe d n)).named = true then qQ0 d C 100 n false false (markM d n noSt) else ([], markM d n noSt)
def qV5 (d : Dc) (C : List Clm) (n : Int) (s : St) : Txt × St := qYv d (fun k => qQ0 d C 100 k true true) n descT { had := fun x => x == n, asked := s.asked }
def qDa (d : Dc) (C : List Clm) (n : Int) (r : Txt × St) : Txt × St :=
 if (nd d n).tag ≠ [] /\ r.1 ≠ [] then (if (qV5 d C n r.2).1 = [] /\ sq d n titleT ≠ r.1 then sq d n titleT else (qV5 d C n r.2).1, (qV5 d C n r.2).2) else ([], r.2)
structure Mm where
 name : Txt := []
 about : Txt := []
 uses : List Int := []
def qBy (d : Dc) (s : St) : List Int := ((List.range d.length).map (fun k : Nat => (k : Int))).filter s.asked
def qYg (d : Dc) (C : List Clm) (n : Int) : Mm :=
 if isM d n false then ⟨(qB9 d C n).1, (qDa d C n (qB9 d C n)).1, qBy d (qDa d C n (qB9 d C n)).2⟩ else {}
end Go.Proofs.YtklbmkaomojciaaGreat
namespace Go.Proofs.YtklbmkaomojciaaGreat
def alvlT : Txt := [97, 114, 105, 97, 45, 108, 101, 118, 101, 108]
def qVm : Txt := [97, 114, 105, 97, 45, 99, 104, 101, 99, 107, 101, 100]
def qV4 : Txt := [97, 114, 105, 97, 45, 100, 105, 115, 97, 98, 108, 101, 100]
def chkT : Txt := [99, 104, 101, 99, 107, 101, 100]
def zWs : List Txt := [altT, labelT, titleT, valueT, alvlT, qVm, qV4, chkT]
structure SameBut (d y : Dc) (k : Int) : Prop where
 len : y.length = d.length
 live : ∀ n, (nd y n).live = (nd d n).live
 tag : ∀ n, (nd y n).tag = (nd d n).tag
 up : ∀ n, (nd y n).up = (nd d n).up
 kids : ∀ n, (nd y n).kids = (nd d n).kids
 hasS : ∀ n, (nd y n).hasS = (nd d n).hasS
 shadow : ∀ n, (nd y n).shadow = (nd d n).shadow
 inS : ∀ n, (nd y n).inS = (nd d n).inS
 attr : ∀ n s, s ∉ zWs -> qZv y n s = qZv d n s
 rest : ∀ n, 0 <= n -> n ≠ k -> nd y n = nd d n
section
variable {d y : Dc} {k : Int}
theorem SameBut.isM (H : SameBut d y k) (n : Int) (el : Bool) : isM y n el = isM d n el := by
 unfold Proofs.YtklbmkaomojciaaGreat.isM
 rw [H.len, H.live, H.tag]
theorem SameBut.said (H : SameBut d y k) (n : Int) {s : Txt} (hs : s ∉ zWs) : said y n s = said d n s := by
 unfold Proofs.YtklbmkaomojciaaGreat.said
 rw [H.attr n s hs]
theorem SameBut.hasA (H : SameBut d y k) (n : Int) {s : Txt} (hs : s ∉ zWs) : hasA y n s = hasA d n s := by
 unfold Proofs.YtklbmkaomojciaaGreat.hasA
 rw [H.attr n s hs]
theorem SameBut.attrAt (H : SameBut d y k) {n : Int} (h0 : 0 <= n) (hn : n ≠ k) (s : Txt) : qZv y n s = qZv d n s := by
 unfold qZv
 rw [H.isM, H.rest n h0 hn]
theorem SameBut.saidAt (H : SameBut d y k) {n : Int} (h0 : 0 <= n) (hn : n ≠ k) (s : Txt) : Proofs.YtklbmkaomojciaaGreat.said y n s = Proofs.YtklbmkaomojciaaGreat.said d n s := by
 unfold Proofs.YtklbmkaomojciaaGreat.said
 rw [H.attrAt h0 hn]
theorem SameBut.sqAt (H : SameBut d y k) {n : Int} (h0 : 0 <= n) (hn : n ≠ k) (s : Txt) : sq y n s = sq d n s := by
 unfold sq
 rw [H.saidAt h0 hn]
theorem SameBut.hasAt (H : SameBut d y k) {n : Int} (h0 : 0 <= n) (hn : n ≠ k) (s : Txt) : Proofs.YtklbmkaomojciaaGreat.hasA y n s = Proofs.YtklbmkaomojciaaGreat.hasA d n s := by
 unfold Proofs.YtklbmkaomojciaaGreat.hasA
 rw [H.attrAt h0 hn]
theorem SameBut.path (H : SameBut d y k) : ∀ f n, pathF y f n = pathF d f n := by
 intro f
 induction f with
 | zero => intro n; rfl
 | succ f ih => intro n; unfold pathF; rw [H.isM, H.up, ih]
theorem SameBut.scope (H : SameBut d y k) (n : Int) : qQn y n = qQn d n := by
 unfold qQn qKx
 rw [H.len, H.path]
 simp only [H.inS, H.up]
theorem SameBut.allF (H : SameBut d y k) : ∀ f n, allF y f n = allF d f n := by
 intro f
 induction f with
 | zero => intro n; rfl
 | succ f ih =>
   intro n
   have e : Proofs.YtklbmkaomojciaaGreat.allF y f = Proofs.YtklbmkaomojciaaGreat.allF d f := funext ih
   unfold Proofs.YtklbmkaomojciaaGreat.allF
   rw [H.isM, H.shadow, H.kids, e]
theorem SameBut.allM (H : SameBut d y k) : allM y = allM d := funext (H.allF 100)
theorem SameBut.slotR (H : SameBut d y k) : slotR y = slotR d := by
 funext n
 unfold Proofs.YtklbmkaomojciaaGreat.slotR
 rw [H.isM, H.inS, H.up, H.hasS, H.shadow, H.allM, H.said n (by decide)]
 have e : ∀ a b, qJf y a b = qJf d a b := fun a b => by
  funext z
  unfold qJf
  rw [H.tag, H.scope, H.said z (by decide)]
 rw [e]
theorem SameBut.givenR (H : SameBut d y k) : givenR y = givenR d := by
 funext n
 unfold Proofs.YtklbmkaomojciaaGreat.givenR qJ6
 rw [H.isM, H.tag, H.scope, H.kids, H.slotR]
theorem SameBut.kidsR (H : SameBut d y k) : kidsR y = kidsR d := by
 funext n
 unfold Proofs.YtklbmkaomojciaaGreat.kidsR
 rw [H.isM, H.hasS, H.shadow, H.kids, H.givenR]
theorem SameBut.upR (H : SameBut d y k) : upR y = upR d := by
 funext n
 unfold Proofs.YtklbmkaomojciaaGreat.upR
 rw [H.kidsR, H.len]
theorem SameBut.ups (H : SameBut d y k) (n : Int) : ups y n = ups d n := by
 unfold Proofs.YtklbmkaomojciaaGreat.ups
 rw [H.upR]
theorem SameBut.shownR (H : SameBut d y k) : shownR y = shownR d := by
 unfold Proofs.YtklbmkaomojciaaGreat.shownR
 rw [H.kidsR]
theorem SameBut.findD (H : SameBut d y k) : findD y = findD d := by
 funext n id
 unfold Proofs.YtklbmkaomojciaaGreat.findD
 rw [H.isM, H.allM]
 have e : ∀ z, Proofs.YtklbmkaomojciaaGreat.said y z idT = Proofs.YtklbmkaomojciaaGreat.said d z idT := fun z => H.said z (by decide)
 simp only [H.scope, e]
theorem SameBut.hid (H : SameBut d y k) (n : Int) : qQo y n = qQo d n := by
 have e : ∀ f n, hidF y f n = hidF d f n := by
  intro f
  induction f with
  | zero => intro n; rfl
  | succ f ih =>
    intro n
    unfold hidF offM sq
    rw [H.isM, H.hasA n (by decide), H.said n (by decide), H.upR, ih]
 exact e 100 n
theorem SameBut.labelled (H : SameBut d y k) {n : Int} (h0 : 0 <= n) (hn : n ≠ k) : qQx y n = qQx d n := by
 unfold qQx
 rw [H.sqAt h0 hn, H.sqAt h0 hn]
theorem SameBut.base (H : SameBut d y k) {n : Int} (h0 : 0 <= n) (hn : n ≠ k) : qZx y n = qZx d n := by
 have e1 : qYq y n = qYq d n := by
  unfold qYq
  rw [H.labelled h0 hn, H.saidAt h0 hn]
 have e2 : qQ8 y n = qQ8 d n := by
  unfold qQ8
  rw [H.tag, H.labelled h0 hn, H.sqAt h0 hn, H.sqAt h0 hn, H.sqAt h0 hn, H.hasAt h0 hn, H.hasAt h0 hn]
 unfold qZx
 rw [e1, e2]
theorem SameBut.rn (H : SameBut d y k) : ∀ f n, k ∉ qZl (Proofs.YtklbmkaomojciaaGreat.upR d) f n -> rnF y f n = rnF d f n := by
 intro f
 induction f with
 | zero => intro n _; rfl
 | succ f ih =>
   intro n h
   rw [qF7, qF7]
   by_cases h0 : n < 0
   · rw [if_pos h0, if_pos h0]
   · rw [if_neg h0, if_neg h0, H.upR]
     unfold qZl at h
     rw [if_neg h0] at h
     simp only [List.mem_cons, not_or] at h
     rw [ih _ h.2]
     unfold zKl
     rw [H.isM, H.tag, H.base (by omega) (fun e => h.1 e.symm)]
theorem SameBut.role (H : SameBut d y k) {n : Int} (h : k ∉ Proofs.YtklbmkaomojciaaGreat.ups d n) : qQe y n = qQe d n := by
 unfold qQe
 rw [H.rn 100 n h]
theorem qGc {one : Int -> St -> Txt × St} (h1 : ∀ k s x, s.asked x = true -> (one k s).2.asked x = true) : ∀ (ks : List Int) (s : St) (x : Int), s.asked x = true -> (eachF one ks s).2.asked x = true := by
 intro ks
 induction ks with
 | nil => intro s x h; exact h
 | cons k ks ih =>
   intro s x h
   unfold eachF
   split
   · exact ih _ _ (h1 _ _ _ h)
   · exact ih _ _ h
theorem qFn {one : Int -> Bool -> St -> Txt × St} (h1 : ∀ k l s x, s.asked x = true -> (one k l s).2.asked x = true) {n : Int} {w : Bool} {s : St} {x : Int} (h : s.asked x = true) : (qD6 d one n w s).2.asked x = true := by
 unfold qD6
 split
 · exact h
 · exact qGc (fun k s x h => h1 k true s x h) _ _ _ h
theorem zWt {one : Int -> St -> Txt × St} (h1 : ∀ k s x, s.asked x = true -> (one k s).2.asked x = true) {n : Int} {s : St} {x : Int} (h : s.asked x = true) : (qXs d one n s).2.asked x = true := by
 unfold qXs
 split
 · exact h
 · split
   · split
     · exact h1 _ _ _ h
     · exact h
   · exact h
theorem qF0 {C : List Clm} {one : Int -> Bool -> St -> Txt × St} (h1 : ∀ k l s x, s.asked x = true -> (one k l s).2.asked x = true) {n : Int} {w li : Bool} {s : St} {x : Int} (h : s.asked x = true) : (zZe d C one n w li s).2.asked x = true := by
 unfold zZe
 split
 · exact qGc (fun k s x h => h1 k li s x h) _ _ _ h
 · exact h
theorem zX2 {C : List Clm} {one : Int -> Bool -> St -> Txt × St} (h1 : ∀ k l s x, s.asked x = true -> (one k l s).2.asked x = true) {n : Int} {w li : Bool} {s : St} {x : Int} (h : s.asked x = true) : (zWn d C one n w li s).2.asked x = true := by
 have h2 := zWt (d := d) (n := n) (fun k s x h => h1 k false s x h) h
 unfold zWn
 split
 · exact h
 · split
   · exact h
   · split
     · exact h2
     · split
       · exact qF0 h1 h2
       · exact qF0 h1 h2
theorem zXd {C : List Clm} {one : Int -> Bool -> St -> Txt × St} (h1 : ∀ k l s x, s.asked x = true -> (one k l s).2.asked x = true) {n : Int} {w li : Bool} {s : St} {x : Int} (h : (markM d n s).asked x = true) : (qVj d C one n w li s).2.asked x = true := by
 unfold qVj
 split
 · exact h
 · split
   · exact h
   · split
     · exact qFn h1 h
     · exact zX2 h1 (qFn h1 h)
theorem zYl {n : Int} {s : St} {x : Int} (h : s.asked x = true) : (markM d n s).asked x = true := by
 simp [markM, h]
theorem zZa {C : List Clm} : ∀ (f : Nat) (n : Int) (w l : Bool) (s : St) (x : Int), s.asked x = true -> (qQ0 d C f n w l s).2.asked x = true := by
 intro f
 induction f with
 | zero => intro n w l s x h; exact h
 | succ f ih =>
   intro n w l s x h
   rw [zJu]
   exact zXd (fun k l s x h => ih k true l s x h) (zYl h)
end
end Go.Proofs.YtklbmkaomojciaaGreat
namespace Go.Proofs.YtklbmkaomojciaaGreat
theorem qFy {l : List Clm} {k : Int} (h : 0 <= ownerM l k) : ∃ c ∈ l, c.kid = k /\ c.owner = ownerM l k := by
 unfold ownerM at h ⊢
 cases hf : l.find? (fun c => c.kid == k) with
 | none => rw [hf] at h; simp at h
 | some c =>
   have h1 := List.find?_some hf
   have h2 := List.mem_of_find?_eq_some hf
   simp at h1
   exact ⟨c, h2, h1, by simp⟩
theorem once_eq {l : List Clm} (h : (l.map (·.kid)).Nodup) {c e : Clm} (hc : c ∈ l) (he : e ∈ l) (hk : c.kid = e.kid) : c = e := by
 induction l with
 | nil => simp at hc
 | cons a l ih =>
   rw [List.map_cons, List.nodup_cons] at h
   rcases List.mem_cons.1 hc with hc | hc
   · rcases List.mem_cons.1 he with he | he
     · rw [hc, he]
     · exact absurd (List.mem_map.2 ⟨e, he, by rw [<- hk, hc]⟩) h.1
   · rcases List.mem_cons.1 he with he | he
     · exact absurd (List.mem_map.2 ⟨c, hc, by rw [hk, he]⟩) h.1
     · exact ih h.2 hc he
section
variable {d : Dc}
theorem zKe {l : List Clm} (g : Good d) (h : ClmOk d l) {c : Clm} (hc : c ∈ l) : ownerM l c.kid = c.owner := by
 have h0 : 0 <= ownerM l c.kid := by
  rcases Int.lt_or_le (ownerM l c.kid) 0 with h1 | h1
  · exact absurd rfl ((qVi (h.owner_ge g)).1 h1 c hc)
  · exact h1
 obtain ⟨e, he, hk, ho⟩ := qFy h0
 rw [<- ho, once_eq h.once he hc hk]
theorem zJq {l : List Clm} (g : Good d) (h : ClmOk d l) {n k : Int} (hn : 0 <= n) : k ∈ qQp d l n ↔ k ∈ qQp d l n /\ inM d l k = n := by
 refine ⟨fun hk => ⟨hk, ?_⟩, fun h => h.1⟩
 unfold qQp at hk
 rcases List.mem_append.1 hk with hk | hk
 · obtain ⟨h1, h2⟩ := List.mem_filter.1 hk
   simp at h2
   obtain ⟨r, gr⟩ := g.tree
   unfold inM
   rw [if_neg (by omega), qWq gr]
   exact ((qZ9 gr).1 h1).2
 · obtain ⟨c, hc, rfl⟩ := List.mem_map.1 hk
   obtain ⟨h1, h2⟩ := List.mem_filter.1 hc
   simp at h2
   have := zKe g h h1
   unfold inM
   rw [this, h2, if_pos hn]
theorem qBk {l : List Clm} (g : Good d) (h : ClmOk d l) {k : Int} (hk : k ∈ shownR d) (h0 : k ≠ 0) : k ∈ qQp d l (inM d l k) /\ inM d l k ∈ shownR d := by
 unfold inM
 split
 · rename_i ho
   obtain ⟨c, hc, e1, e2⟩ := qFy ho
   refine ⟨?_, by rw [<- e2]; exact h.owner c hc⟩
   unfold qQp
   refine List.mem_append.2 (.inr (List.mem_map.2 ⟨c, List.mem_filter.2 ⟨hc, by simp [e2]⟩, e1⟩))
 · rename_i ho
   obtain ⟨j, hj, e⟩ := List.getElem_of_mem hk
   have := zZ0 g hj (by rw [e]; exact h0)
   rw [e] at this
   exact ⟨List.mem_append.2 (.inl (List.mem_filter.2 ⟨this.1, by simp; omega⟩)), List.mem_of_mem_take this.2⟩
theorem qD5 {l : List Clm} (g : Good d) (h : ClmOk d l) (n : Int) : (qQp d l n).Nodup := by
 obtain ⟨r, gr⟩ := g.tree
 refine List.nodup_append.2 ⟨(qGq gr n).sublist List.filter_sublist, h.once.sublist ((List.filter_sublist).map _), ?_⟩
 intro a ha b hb e
 subst e
 obtain ⟨_, h2⟩ := List.mem_filter.1 ha
 obtain ⟨c, hc, rfl⟩ := List.mem_map.1 hb
 have h3 := zKe g h (List.mem_filter.1 hc).1
 have h4 := h.owner_ge g c (List.mem_filter.1 hc).1
 simp at h2
 omega
theorem zWy {l : List Clm} (g : Good d) (h : ClmOk d l) {n : Int} : (0 : Int) ∉ qQp d l n := by
 intro hk
 obtain ⟨r, gr⟩ := g.tree
 unfold qQp at hk
 rcases List.mem_append.1 hk with hk | hk
 · exact (qXp gr (List.mem_filter.1 hk).1).2.2 rfl
 · obtain ⟨c, hc, e⟩ := List.mem_map.1 hk
   have := (h.kid c (List.mem_filter.1 hc).1).2
   omega
end
theorem zJm {d : Dc} {l : List Clm} (g : Good d) (h : ClmOk d l) : ∃ μ : Int -> Nat, (∀ n, μ n <= d.length) /\ ∀ n ∈ shownR d, n ≠ 0 -> inM d l n ∈ shownR d /\ μ (inM d l n) < μ n := by
 obtain ⟨μ, R⟩ := h.rises
 obtain ⟨μ', R', hl⟩ := R.tight d.length (fun n _ _ => inM_lt g h n)
 exact ⟨μ', hl, fun n hn h0 => by
  have h2 := (qBk g h hn h0).2
  exact ⟨h2, R'.up n (qXy g hn) (qXy g h2)⟩⟩
end Go.Proofs.YtklbmkaomojciaaGreat
