/- Plain laws: words, documents, who is in what, kinds, roles, names. -/
import GoSem.Op.String
namespace Go.Proofs.Ytklbmkaomojciaa
abbrev L := List UInt8
def blank (c : UInt8) : Bool := c == 32 || c == 9 || c == 10 || c == 13
def qGh : Option L -> L -> List L
 | none, [] => []
 | some w, [] => [w]
 | none, c :: r => if blank c then qGh none r else qGh (some [c]) r
 | some w, c :: r => if blank c then w :: qGh none r else qGh (some (w ++ [c])) r
def toks (s : L) : List L := qGh none s
def digit (c : UInt8) : Bool := 48 <= c && c <= 57
def small (c : UInt8) : Bool := 97 <= c && c <= 122
def okc (c : UInt8) : Bool := small c || c == 45 || digit c
def chk (i : Nat) (c : UInt8) : Bool := small c || (i != 0 && okc c)
def chkAll (i : Nat) : L -> Bool
 | [] => true
 | c :: r => chk i c && chkAll (i + 1) r
def name (s : L) : Bool := decide (1 <= s.length) && decide (s.length <= 20) && chkAll 0 s
end Go.Proofs.Ytklbmkaomojciaa
namespace Go.Proofs.Ytklbmkaomojciaa
abbrev Txt := List UInt8
structure Att where
 name : Txt
 value : Txt
 deriving DecidableEq
structure Nd where
 live : Bool := false
 tag : Txt := []
 text : Txt := []
 attrs : List Att := []
 up : Int := 0
 kids : List Int := []
 hasS : Bool := false
 shadow : List Int := []
 inS : Bool := false
 deriving DecidableEq
abbrev Dc := List Nd
def nd (d : Dc) (n : Int) : Nd := d[n.toNat]?.getD {}
def isM (d : Dc) (n : Int) (el : Bool) : Bool := decide (0 <= n) && decide (n < (d.length : Int)) && (nd d n).live && (!el || !(nd d n).tag.isEmpty)
theorem qYd {d : Dc} {n : Int} {el : Bool} (h : isM d n el = true) : isM d n false = true := by
 simp [isM] at h ⊢
 exact h.1
def attrOf (l : List Att) (name : Txt) : Option Txt := (l.find? (fun a => a.name == name)).map (·.value)
def attrM (d : Dc) (n : Int) (name : Txt) : Option Txt := if isM d n true then attrOf (nd d n).attrs name else none
def pathF (d : Dc) : Nat -> Int -> List Int
 | 0, _ => []
 | f + 1, n => if isM d n false then n :: pathF d f (nd d n).up else []
def pathM (d : Dc) (n : Int) : List Int := pathF d (d.length + 1) n
def qYp (d : Dc) (n : Int) : Int := (((pathM d n).find? (fun k => (nd d k).inS && decide (0 <= (nd d k).up))).map (fun k => (nd d k).up)).getD 0
def allF (d : Dc) : Nat -> Int -> List Int
 | 0, _ => []
 | f + 1, n => if isM d n false then n :: ((nd d n).shadow ++ (nd d n).kids).flatMap (allF d f) else []
def Ends (d : Dc) : Nat -> Int -> Prop
 | 0, _ => False
 | f + 1, n => isM d n false = true -> ∀ k ∈ (nd d n).shadow ++ (nd d n).kids, Ends d f k
theorem Ends.more {d : Dc} : ∀ {f n}, Ends d f n -> Ends d (f + 1) n := by
 intro f
 induction f with
 | zero => intro n h; exact h.elim
 | succ f ih => intro n h hi k hk; exact ih (h hi k hk)
theorem Ends.le {d : Dc} {f g : Nat} {n : Int} (h : Ends d f n) (hg : f <= g) : Ends d g n := by
 induction hg with
 | refl => exact h
 | step _ ih => exact ih.more
def maxL (l : List Nat) : Nat := l.foldl max 0
def qW3 (d : Dc) : Nat -> Int -> Nat
 | 0, _ => 0
 | f + 1, n => maxL (((nd d n).shadow ++ (nd d n).kids).map (fun k => 1 + qW3 d f k))
end Go.Proofs.Ytklbmkaomojciaa
namespace Go.Proofs.Ytklbmkaomojciaa
structure Chg where
 kind : Int := 0
 node : Int := 0
 dest : Int := 0
 before : Int := 0
 name : Txt := []
 value : Txt := []
 deriving DecidableEq
def qBt (d : Dc) (k : Nat) (x : Nd) : Dc := if k = d.length then d ++ [x] else d.set k x
def qW9 (l : List Int) (k : Int) : List Int := l.filter (fun x => x != k)
def atF (x : Int) : List Int -> Nat -> Int -> Int
 | [], _, a => a
 | y :: l, i, a => atF x l (i + 1) (if y = x then (i : Int) else a)
def deepestM (d : Dc) (k : Int) : Nat := qW3 d 100 k
def allM (d : Dc) (k : Int) : List Int := allF d 100 k
def insM (l : List Int) (a : Nat) (k : Int) : List Int := l.take a ++ [k] ++ l.drop a
def listM (x : Nd) (sh : Bool) : List Int := if sh then x.shadow else x.kids
def qJm (x : Nd) (sh : Bool) (l : List Int) : Nd := if sh then { x with shadow := l } else { x with kids := l }
def putAt (l : List Int) (before : Int) : Int := if 0 <= before then atF before l 0 (-1) else l.length
def putD (d : Dc) (k i before : Int) (sh : Bool) : Dc := qBt d i.toNat (qJm (nd d i) sh (insM (listM (nd d i) sh) (putAt (listM (nd d i) sh) before).toNat k))
def putM (d : Dc) (k i before : Int) (sh : Bool) : Int × Dc :=
 if putAt (listM (nd d i) sh) before < 0 then (8, [])
 else if 12 <= (listM (nd d i) sh).length then (5, [])
 else if 16 < ((pathM (putD d k i before sh) k).length : Int) - 1 + deepestM (putD d k i before sh) k then (3, [])
 else (0, putD d k i before sh)
def takeM (d : Dc) (k : Int) : Dc :=
 qBt d (nd d k).up.toNat { nd d (nd d k).up with kids := qW9 (nd d (nd d k).up).kids k, shadow := qW9 (nd d (nd d k).up).shadow k }
def mainT : Txt := [109, 97, 105, 110]
def qVv : Txt := [115, 108, 111, 116]
end Go.Proofs.Ytklbmkaomojciaa
namespace Go.Proofs.Ytklbmkaomojciaa
theorem qVh {d : Dc} {k : Nat} {x : Nd} : (qBt d k x).length = if k = d.length then d.length + 1 else d.length := by
 unfold qBt; split <;> simp
theorem qZd {d : Dc} {n : Int} : isM d n false = true ↔ 0 <= n /\ (nd d n).live = true := by
 unfold isM nd
 constructor
 · intro h; simp at h; exact ⟨h.1.1, by simpa using h.2⟩
 · rintro ⟨h1, h2⟩
   have : n.toNat < d.length := by
    rcases Nat.lt_or_ge n.toNat d.length with h | h
    · exact h
    · rw [List.getElem?_eq_none h] at h2; simp at h2
   simp [h1, h2]; omega
theorem qYi {d : Dc} {n : Int} (h : isM d n false = true) : n.toNat < d.length /\ (n.toNat : Int) = n := by
 simp [isM] at h; omega
theorem qXb {d : Dc} {n : Int} : isM d n true = true ↔ isM d n false = true /\ (nd d n).tag ≠ [] := by
 simp [isM]
def qJo (d : Dc) (n : Int) (sh : Bool) : List Int := listM (nd d n) sh
def Rising : List Att -> Prop := List.Pairwise (fun a b => Op.bytesLess a.name b.name = true)
structure NdOk (x : Nd) : Prop where
 few : ∀ sh, (listM x sh).length <= 12
 once : ∀ sh, (listM x sh).Nodup
 text : x.tag = [] -> x.kids = [] /\ x.shadow = [] /\ x.attrs = [] /\ x.hasS = false
 hs : x.hasS = false -> x.shadow = []
 slot : x.tag = qVv -> x.hasS = false
 rising : Rising x.attrs
 few8 : x.attrs.length <= 8
 atts : ∀ a ∈ x.attrs, a.name.length <= 20 /\ a.value.length <= 60
 short : x.text.length <= 60 /\ x.tag.length <= 20
theorem NdOk.blank : NdOk {} := by
 refine ⟨?_, ?_, ?_, ?_, ?_, ?_, ?_, ?_, ?_⟩ <;> simp [listM, Rising]
structure G0 (free : Int -> Prop) (R : Nat) (r : Int -> Nat) (d : Dc) : Prop where
 root : (nd d 0).live = true /\ (nd d 0).tag = mainT /\ (nd d 0).up = -1 /\ (nd d 0).hasS = false /\ (nd d 0).inS = false
 up : ∀ n, isM d n false = true -> n ≠ 0 -> ¬ free n -> isM d (nd d n).up true = true /\ n ∈ qJo d (nd d n).up (nd d n).inS
 kid : ∀ n sh k, isM d n false = true -> k ∈ qJo d n sh -> isM d k false = true /\ (nd d k).up = n /\ (nd d k).inS = sh /\ k ≠ 0 /\ ¬ free k
 ok : ∀ n, NdOk (nd d n)
 blank : ∀ n, (nd d n).live = false -> nd d n = {}
 rank : ∀ n, isM d n false = true -> r n <= R /\ (n ≠ 0 -> ¬ free n -> r n = r (nd d n).up + 1)
 rank0 : r 0 = 0
def qZk : Int -> Prop := fun _ => False
structure Good (d : Dc) : Prop where
 len : d.length <= 60
 tree : ∃ r, G0 qZk 16 r d
 last : d.length = 1 ∨ isM d ((d.length : Int) - 1) false = true
inductive Und (d : Dc) (n : Int) : Int -> Prop
 | here : isM d n false = true -> Und d n n
 | step {x : Int} : isM d x false = true -> x ≠ 0 -> Und d n (nd d x).up -> Und d n x
theorem Und.is {d : Dc} {n x : Int} (h : Und d n x) : isM d x false = true := by cases h <;> assumption
theorem Und.top {d : Dc} {n x : Int} (h : Und d n x) : isM d n false = true := by induction h with | here h => exact h | step _ _ _ ih => exact ih
theorem Und.trans {d : Dc} {a b c : Int} (h : Und d b c) (k : Und d a b) : Und d a c := by
 induction h with
 | here _ => exact k
 | step h1 h2 _ ih => exact .step h1 h2 ih
theorem Und.down {d : Dc} {n x : Int} (h : Und d n x) : x = n ∨ ∃ k, isM d k false = true /\ k ≠ 0 /\ (nd d k).up = n /\ Und d k x := by
 induction h with
 | here _ => exact .inl rfl
 | @step x h1 h2 _ ih =>
   right
   rcases ih with ih | ⟨k, a, b, c, e⟩
   · exact ⟨x, h1, h2, ih, .here h1⟩
   · exact ⟨k, a, b, c, .step h1 h2 e⟩
section
variable {d : Dc} {free : Int -> Prop} {R : Nat} {r : Int -> Nat}
theorem G0.is0 (g : G0 free R r d) : isM d 0 false = true := qZd.2 ⟨by omega, g.root.1⟩
theorem G0.pos (g : G0 free R r d) : 0 < d.length := by have := (qYi g.is0).1; omega
theorem G0.upIs (g : G0 free R r d) {n : Int} (h : isM d n false = true) (h0 : n ≠ 0) (hf : ¬ free n) : isM d (nd d n).up false = true := qYd (g.up n h h0 hf).1
theorem Und.le (g : G0 qZk R r d) {n x : Int} (h : Und d n x) : r n <= r x := by
 induction h with
 | here _ => exact Nat.le_refl _
 | step h1 h2 _ ih => have := (g.rank _ h1).2 h2 (fun h => h); omega
theorem Und.root (g : G0 qZk R r d) {x : Int} (h : isM d x false = true) : Und d 0 x := by
 have : ∀ m x, isM d x false = true -> r x = m -> Und d 0 x := by
  intro m
  induction m with
  | zero =>
    intro x hx hr
    by_cases h0 : x = 0
    · subst h0; exact .here hx
    · have := (g.rank x hx).2 h0 (fun h => h); omega
  | succ m ih =>
    intro x hx hr
    by_cases h0 : x = 0
    · subst h0; exact .here hx
    · have h1 := (g.rank x hx).2 h0 (fun h => h)
      exact .step hx h0 (ih _ (g.upIs hx h0 (fun h => h)) (by omega))
 exact this _ x h rfl
end
section
variable {d : Dc} {R : Nat} {r : Int -> Nat}
theorem qYa (g : G0 qZk R r d) {n k : Int} (h : isM d n false = true) : k ∈ (nd d n).shadow ++ (nd d n).kids ↔ isM d k false = true /\ k ≠ 0 /\ (nd d k).up = n := by
 constructor
 · intro hk
   rcases List.mem_append.1 hk with hk | hk
   · have := g.kid n true k h hk; exact ⟨this.1, this.2.2.2.1, this.2.1⟩
   · have := g.kid n false k h hk; exact ⟨this.1, this.2.2.2.1, this.2.1⟩
 · rintro ⟨h1, h2, rfl⟩
   have := (g.up k h1 h2 (fun h => h)).2
   unfold qJo listM at this
   split at this
   · exact List.mem_append_left _ this
   · exact List.mem_append_right _ this
theorem qGa (g : G0 qZk R r d) : ∀ f n x, isM d n false = true -> R < r n + f -> (x ∈ allF d f n ↔ Und d n x) := by
 intro f
 induction f with
 | zero => intro n x h hf; have := (g.rank n h).1; omega
 | succ f ih =>
   intro n x h hf
   rw [allF, if_pos h, List.mem_cons, List.mem_flatMap]
   constructor
   · rintro (rfl | ⟨k, hk, hx⟩)
     · exact .here h
     · obtain ⟨h1, h2, h3⟩ := (qYa g h).1 hk
       have := (g.rank k h1).2 h2 (fun h => h)
       rw [h3] at this
       have hu := (ih k x h1 (by omega)).1 hx
       refine hu.trans (.step h1 h2 ?_)
       rw [h3]; exact .here h
   · intro hu
     rcases hu.down with rfl | ⟨k, h1, h2, h3, h4⟩
     · left; rfl
     · right
       have := (g.rank k h1).2 h2 (fun h => h)
       rw [h3] at this
       exact ⟨k, (qYa g h).2 ⟨h1, h2, h3⟩, (ih k x h1 (by omega)).2 h4⟩
end
end Go.Proofs.Ytklbmkaomojciaa
namespace Go.Proofs.Ytklbmkaomojciaa
theorem nd_neg {d : Dc} {n : Int} (h : n < 0) : nd d n = nd d 0 := by
 unfold nd; rw [show n.toNat = (0 : Int).toNat by omega]
theorem qBj {d : Dc} {P : Nd -> Prop} (h : ∀ n, 0 <= n -> P (nd d n)) (n : Int) : P (nd d n) := by
 by_cases c : 0 <= n
 · exact h n c
 · rw [nd_neg (by omega)]; exact h 0 (by omega)
theorem isM_same {d d' : Dc} (h : ∀ n, 0 <= n -> (nd d' n).live = (nd d n).live) (n : Int) : isM d' n false = true ↔ isM d n false = true := by
 rw [qZd, qZd]
 constructor
 · rintro ⟨a, b⟩; exact ⟨a, by rw [<- h n a]; exact b⟩
 · rintro ⟨a, b⟩; exact ⟨a, by rw [h n a]; exact b⟩
section
variable {d d' : Dc} {free : Int -> Prop} {R : Nat} {r : Int -> Nat}
theorem G0.same (g : G0 free R r d) (h : ∀ n, 0 <= n -> (nd d' n).live = (nd d n).live /\ (nd d' n).up = (nd d n).up /\ (nd d' n).inS = (nd d n).inS /\ (nd d' n).kids = (nd d n).kids /\ (nd d' n).shadow = (nd d n).shadow /\ ((nd d' n).tag = (nd d n).tag))
 (hroot : (nd d' 0).hasS = false) (hok : ∀ n, 0 <= n -> NdOk (nd d' n)) (hb : ∀ n, 0 <= n -> (nd d' n).live = false -> nd d' n = {}) : G0 free R r d' := by
 have hi : ∀ n, isM d' n false = true ↔ isM d n false = true := isM_same (fun n hn => (h n hn).1)
 have hl : ∀ n sh, 0 <= n -> qJo d' n sh = qJo d n sh := by
  intro n sh hn; unfold qJo listM; rw [(h n hn).2.2.2.1, (h n hn).2.2.2.2.1]
 have hie : ∀ n, isM d n true = true -> isM d' n true = true := by
  intro n hn
  obtain ⟨a, b⟩ := qXb.1 hn
  exact qXb.2 ⟨(hi n).2 a, by rw [(h n (qZd.1 a).1).2.2.2.2.2]; exact b⟩
 refine ⟨?_, ?_, ?_, qBj hok, ?_, ?_, g.rank0⟩
 · have h0 := h 0 (by omega)
   rw [h0.1, h0.2.2.2.2.2, h0.2.1, h0.2.2.1]
   exact ⟨g.root.1, g.root.2.1, g.root.2.2.1, hroot, g.root.2.2.2.2⟩
 · intro n hn h0 hf
   have hn' := (hi n).1 hn
   have hp := (qZd.1 hn').1
   obtain ⟨a, b⟩ := g.up n hn' h0 hf
   rw [(h n hp).2.1, (h n hp).2.2.1, hl _ _ (qZd.1 (qYd a)).1]
   exact ⟨hie _ a, b⟩
 · intro n sh k hn hk
   have hn' := (hi n).1 hn
   rw [hl _ _ (qZd.1 hn').1] at hk
   obtain ⟨a, b, c, e, f⟩ := g.kid n sh k hn' hk
   have hp := (qZd.1 a).1
   exact ⟨(hi k).2 a, by rw [(h k hp).2.1]; exact b, by rw [(h k hp).2.2.1]; exact c, e, f⟩
 · intro n; exact qBj (P := fun x => x.live = false -> x = {}) hb n
 · intro n hn
   have hn' := (hi n).1 hn
   rw [(h n (qZd.1 hn').1).2.1]
   exact g.rank n hn'
theorem G0.born (g : G0 qZk R r d) {n : Int} (hn0 : 0 <= n) (hd : nd d n = {}) {x : Nd} (hxl : x.live = true) (hxk : x.kids = []) (hxs : x.shadow = []) (hxo : NdOk x) (hxu : isM d x.up false = true)
 (h1 : nd d' n = x) (h3 : ∀ m, 0 <= m -> m ≠ n -> nd d' m = nd d m) : G0 (· = n) R (fun z => if z = n then 0 else r z) d' /\ ∀ z, Und d' n z -> z = n := by
 have hdead : ¬ isM d n false = true := by rw [qZd, hd]; simp
 have h0 : n ≠ 0 := by rintro rfl; exact hdead g.is0
 have hi : ∀ m, isM d' m false = true ↔ isM d m false = true ∨ m = n := by
  intro m
  rw [qZd, qZd]
  by_cases e : m = n
  · subst e; rw [h1]; simp [hxl, hn0]
  · by_cases hm : 0 <= m
    · rw [h3 m hm e]; simp [e]
    · simp [hm, e]
 have hne : ∀ m, isM d m false = true -> m ≠ n := by rintro m h rfl; exact hdead h
 have hnd : ∀ m, isM d m false = true -> nd d' m = nd d m := fun m h => h3 m (qZd.1 h).1 (hne m h)
 have hup : ∀ m, isM d m false = true -> m ≠ 0 -> isM d (nd d m).up false = true := fun m h h0 => g.upIs h h0 (fun h => h)
 refine ⟨⟨?_, ?_, ?_, ?_, ?_, ?_, ?_⟩, ?_⟩
 · rw [hnd 0 g.is0]; exact g.root
 · intro m hm hm0 hmn
   have a := ((hi m).1 hm).resolve_right hmn
   obtain ⟨u1, u2⟩ := g.up m a hm0 (fun h => h)
   rw [hnd m a]
   refine ⟨qXb.2 ⟨(hi _).2 (.inl (qYd u1)), ?_⟩, ?_⟩
   · rw [hnd _ (qYd u1)]; exact (qXb.1 u1).2
   · unfold qJo; rw [hnd _ (qYd u1)]; exact u2
 · intro m sh k hm hk
   rcases (hi m).1 hm with a | rfl
   · unfold qJo at hk
     rw [hnd m a] at hk
     obtain ⟨c1, c2, c3, c4, -⟩ := g.kid m sh k a hk
     exact ⟨(hi k).2 (.inl c1), by rw [hnd k c1]; exact c2, by rw [hnd k c1]; exact c3, c4, hne k c1⟩
   · unfold qJo listM at hk
     rw [h1, hxk, hxs] at hk
     cases sh <;> simp at hk
 · refine qBj (fun m hm => ?_)
   by_cases e : m = n
   · subst e; rw [h1]; exact hxo
   · rw [h3 m hm e]; exact g.ok m
 · intro m
   refine qBj (P := fun x => x.live = false -> x = {}) (fun m hm => ?_) m
   by_cases e : m = n
   · subst e; rw [h1, hxl]; simp
   · rw [h3 m hm e]; exact g.blank m
 · intro m hm
   rcases (hi m).1 hm with a | rfl
   · have hq := hne m a
     refine ⟨by simp only [hq, if_false]; exact (g.rank m a).1, fun h1 h2 => ?_⟩
     rw [hnd m a]
     simp only [hq, hne _ (hup m a h1), if_false]
     exact (g.rank m a).2 h1 (fun h => h)
   · exact ⟨by simp, fun _ h => absurd rfl h⟩
 · show (if (0 : Int) = n then 0 else r 0) = 0
   rw [if_neg (fun h => h0 h.symm)]; exact g.rank0
 · intro z hz
   rcases hz.down with h | ⟨k, a, b, c, -⟩
   · exact h
   · exfalso
     rcases (hi k).1 a with a | rfl
     · rw [hnd k a] at c
       exact hdead (c ▸ hup k a b)
     · rw [h1] at c
       exact hdead (c ▸ hxu)
theorem Und.congr (hi : ∀ m, isM d' m false = true ↔ isM d m false = true) (hu : ∀ m, isM d m false = true -> (nd d' m).up = (nd d m).up) {n z : Int} : Und d' n z ↔ Und d n z := by
 constructor
 · intro h
   induction h with
   | here h => exact .here ((hi _).1 h)
   | step a b _ ih => have a' := (hi _).1 a; rw [hu _ a'] at ih; exact .step a' b ih
 · intro h
   induction h with
   | here h => exact .here ((hi _).2 h)
   | step a b _ ih => refine .step ((hi _).2 a) b ?_; rw [hu _ a]; exact ih
theorem qVo (x : Nd) (sh : Bool) (l : List Int) : (qJm x sh l).live = x.live /\ (qJm x sh l).tag = x.tag /\ (qJm x sh l).text = x.text /\ (qJm x sh l).attrs = x.attrs /\ (qJm x sh l).up = x.up /\ (qJm x sh l).hasS = x.hasS /\ (qJm x sh l).inS = x.inS := by
 cases sh <;> exact ⟨rfl, rfl, rfl, rfl, rfl, rfl, rfl⟩
end
end Go.Proofs.Ytklbmkaomojciaa
namespace Go.Proofs.Ytklbmkaomojciaa
open Op (bytesLess)
end Go.Proofs.Ytklbmkaomojciaa
namespace Go.Proofs.Ytklbmkaomojciaa
structure PutOk (d : Dc) (k t : Int) (sh : Bool) : Prop where
 tree : ∃ r, G0 (· = k) 16 r d
 is : isM d k false = true
 ne : k ≠ 0
 up : (nd d k).up = t
 ins : (nd d k).inS = sh
 to : isM d t true = true
 host : sh = true -> (nd d t).hasS = true
 und : ¬ Und d k t
theorem take_length {d : Dc} {n : Int} (hp : isM d (nd d n).up false = true) : (takeM d n).length = d.length := by
 have hlt := qYi hp
 unfold takeM
 rw [qVh, if_neg (by omega)]
end Go.Proofs.Ytklbmkaomojciaa
namespace Go.Proofs.Ytklbmkaomojciaa
def preF (kids : Int -> List Int) : Nat -> Int -> List Int
 | 0, _ => []
 | f + 1, n => n :: (kids n).flatMap (preF kids f)
structure Falls (kids : Int -> List Int) (μ : Int -> Nat) (N : Nat) : Prop where
 down : ∀ n k, k ∈ kids n -> μ n < μ k
 top : ∀ n, μ n <= N
inductive Reach (kids : Int -> List Int) (n : Int) : Int -> Prop
 | here : Reach kids n n
 | step {x y : Int} : Reach kids n x -> y ∈ kids x -> Reach kids n y
section
variable {kids : Int -> List Int} {μ : Int -> Nat} {N : Nat}
theorem Reach.trans {a b c : Int} (h : Reach kids b c) (k : Reach kids a b) : Reach kids a c := by
 induction h with
 | here => exact k
 | step _ h ih => exact .step ih h
theorem Reach.first {a c : Int} (h : Reach kids a c) : c = a ∨ ∃ b ∈ kids a, Reach kids b c := by
 induction h with
 | here => exact .inl rfl
 | @step x y h hy ih =>
   right
   rcases ih with rfl | ⟨b, hb, h2⟩
   · exact ⟨y, hy, .here⟩
   · exact ⟨b, hb, .step h2 hy⟩
theorem Reach.le (F : Falls kids μ N) {a c : Int} (h : Reach kids a c) : μ a <= μ c := by
 induction h with
 | here => exact Nat.le_refl _
 | step _ h ih => exact Nat.le_trans ih (Nat.le_of_lt (F.down _ _ h))
theorem pre_more (F : Falls kids μ N) : ∀ f n, N < μ n + f -> preF kids (f + 1) n = preF kids f n := by
 intro f
 induction f with
 | zero => intro n h; have := F.top n; omega
 | succ f ih =>
   intro n h
   rw [preF, preF]
   congr 1
   have : ∀ L : List Int, (∀ k ∈ L, μ n < μ k) -> L.flatMap (preF kids (f + 1)) = L.flatMap (preF kids f) := by
    intro L
    induction L with
    | nil => intro _; rfl
    | cons a L ihL =>
      intro hL
      have := hL a (by simp)
      simp only [List.flatMap_cons]
      rw [ih a (by omega), ihL (fun k hk => hL k (by simp [hk]))]
   exact this _ (fun k hk => F.down n k hk)
theorem qY2 (F : Falls kids μ N) {f : Nat} {n : Int} (h : N < μ n + f) : preF kids f n = n :: (kids n).flatMap (preF kids f) := by
 rw [<- pre_more F f n h, preF]
theorem qKr (F : Falls kids μ N) : ∀ f n x, N < μ n + f -> (x ∈ preF kids f n ↔ Reach kids n x) := by
 intro f
 induction f with
 | zero => intro n x h; have := F.top n; omega
 | succ f ih =>
   intro n x h
   rw [preF, List.mem_cons, List.mem_flatMap]
   constructor
   · rintro (rfl | ⟨k, hk, hx⟩)
     · exact .here
     · have := F.down n k hk
       exact ((ih k x (by omega)).1 hx).trans (.step .here hk)
   · intro hr
     rcases hr.first with rfl | ⟨k, hk, hx⟩
     · left; rfl
     · right
       have := F.down n k hk
       exact ⟨k, hk, (ih k x (by omega)).2 hx⟩
structure Alone (kids : Int -> List Int) (par : Int -> Int) : Prop where
 par : ∀ n k, k ∈ kids n -> par k = n
 once : ∀ n, (kids n).Nodup
theorem qKp {par : Int -> Int} (A : Alone kids par) {a b x : Int} (ha : Reach kids a x) (hb : Reach kids b x) : Reach kids a b ∨ Reach kids b a := by
 induction ha with
 | here => exact .inr hb
 | @step p y h hy ih =>
   cases hb with
   | here => exact .inl (.step h hy)
   | @step q _ h2 hy2 =>
     obtain rfl : p = q := (A.par _ _ hy).symm.trans (A.par _ _ hy2)
     exact ih h2
theorem qXi {par : Int -> Int} (F : Falls kids μ N) (A : Alone kids par) : ∀ f n, N < μ n + f -> (preF kids f n).Nodup := by
 intro f
 induction f with
 | zero => intro n h; have := F.top n; omega
 | succ f ih =>
   intro n h
   rw [preF]
   have hm : ∀ k ∈ kids n, ∀ x, x ∈ preF kids f k ↔ Reach kids k x := fun k hk x => qKr F f k x (by have := F.down n k hk; omega)
   refine List.nodup_cons.2 ⟨fun hx => ?_, ?_⟩
   · obtain ⟨k, hk, hx⟩ := List.mem_flatMap.1 hx
     have h1 := ((hm k hk n).1 hx).le F
     have h2 := F.down n k hk
     omega
   · have : ∀ L : List Int, L.Nodup -> (∀ k ∈ L, k ∈ kids n) -> (L.flatMap (preF kids f)).Nodup := by
      intro L
      induction L with
      | nil => intro _ _; simp
      | cons a L ihL =>
        intro hn hL
        obtain ⟨hn1, hn2⟩ := List.nodup_cons.1 hn
        have ha := hL a (by simp)
        rw [List.flatMap_cons]
        refine List.nodup_append.2 ⟨ih a (by have := F.down n a ha; omega), ihL hn2 (fun k hk => hL k (by simp [hk])), ?_⟩
        intro x hx y hy e
        subst e
        obtain ⟨b, hb, hxb⟩ := List.mem_flatMap.1 hy
        have hb' := hL b (by simp [hb])
        have ra := (hm a ha x).1 hx
        have rb := (hm b hb' x).1 hxb
        have nab : a ≠ b := by rintro rfl; exact hn1 hb
        have key : ∀ a b, a ∈ kids n -> b ∈ kids n -> a ≠ b -> ¬ Reach kids a b := by
         intro a b ha hb hne hr
         cases hr with
         | here => exact hne rfl
         | @step p _ h2 hy2 =>
           obtain rfl : p = n := (A.par _ _ hy2).symm.trans (A.par _ _ hb)
           have h3 := h2.le F
           have h4 := F.down _ _ ha
           omega
        rcases qKp A ra rb with h | h
        · exact key a b ha hb' nab h
        · exact key b a hb' ha (fun e => nab e.symm) h
     exact this _ (A.once n) (fun k h => h)
end
end Go.Proofs.Ytklbmkaomojciaa
namespace Go.Proofs.Ytklbmkaomojciaa
section
variable {d : Dc} {r : Int -> Nat}
end
end Go.Proofs.Ytklbmkaomojciaa
namespace Go.Proofs.Ytklbmkaomojciaa
theorem Falls.tight {kids : Int -> List Int} {μ : Int -> Nat} {N : Nat} (F : Falls kids μ N) (L : Nat) (hin : ∀ n k, k ∈ kids n -> 0 <= n /\ n < L) : ∃ μ', Falls kids μ' L := by
 refine ⟨fun n => ((List.range L).filter (fun x : Nat => decide (μ (x : Int) < μ n))).length, fun n k hk => ?_, fun n => ?_⟩
 · have h1 := F.down n k hk
   have h2 := hin n k hk
   have hsub : ∀ l : List Nat, (l.filter (fun x : Nat => decide (μ (x : Int) < μ n))).length <= (l.filter (fun x : Nat => decide (μ (x : Int) < μ k))).length := by
    intro l
    induction l with
    | nil => simp
    | cons a l ih =>
      simp only [List.filter_cons, decide_eq_true_eq]
      split
      · rw [if_pos (by omega)]; simp; exact ih
      · split
        · simp; omega
        · exact ih
   obtain ⟨l1, l2, e⟩ := List.append_of_mem (List.mem_range.2 (show n.toNat < L by omega))
   rw [e]
   simp only [List.filter_append, List.filter_cons, List.length_append, decide_eq_true_eq]
   rw [if_neg (by rw [show ((n.toNat : Nat) : Int) = n by omega]; omega), if_pos (by rw [show ((n.toNat : Nat) : Int) = n by omega]; exact h1)]
   have a1 := hsub l1
   have a2 := hsub l2
   simp only [List.length_cons]
   omega
 · exact Nat.le_trans (List.length_filter_le _ _) (by simp)
def nameT : Txt := [110, 97, 109, 101]
def said (d : Dc) (n : Int) (s : Txt) : Txt := (attrM d n s).getD []
def qW1 (d : Dc) (host : Int) (want : Txt) (k : Int) : Bool := decide ((nd d k).tag = qVv) && decide (qYp d k = host) && decide (said d k nameT = want)
def qWm (d : Dc) (n : Int) : Int :=
 if !isM d n false || (nd d n).inS || decide ((nd d n).up < 0) then -1
 else if !(nd d (nd d n).up).hasS then -1
 else (((nd d (nd d n).up).shadow.flatMap (allM d)).find? (qW1 d (nd d n).up (said d n qVv))).getD (-1)
def qXu (d : Dc) (s : Int) : Bool := isM d s true && decide ((nd d s).tag = qVv)
def qKz (d : Dc) (s : Int) : List Int :=
 if qXu d s then (nd d (qYp d s)).kids.filter (fun k => decide (qWm d k = s)) else []
def qKx (d : Dc) (n : Int) : List Int :=
 if !isM d n false then [] else if (nd d n).hasS then (nd d n).shadow else if (qKz d n).isEmpty then (nd d n).kids else qKz d n
def upR (d : Dc) (n : Int) : Int := (((List.range d.length).find? (fun k : Nat => (qKx d (k : Int)).contains n)).map (fun k => (k : Int))).getD (-1)
def qJ3 (d : Dc) : List Int := preF (qKx d) 100 0
section
variable {d : Dc} {r : Int -> Nat}
theorem qKk (g : G0 qZk 16 r d) {n s : Int} (h : qWm d n = s) (hs : 0 <= s) : isM d n false = true /\ n ≠ 0 /\ (nd d n).inS = false /\ (nd d (nd d n).up).hasS = true /\ qXu d s = true /\ qYp d s = (nd d n).up /\ (nd d n).up ≠ 0 /\ ∃ c ∈ (nd d (nd d n).up).shadow, Und d c s := by
 unfold qWm at h
 split at h
 · omega
 · rename_i c1
   simp at c1
   split at h
   · omega
   · rename_i c2
     simp at c2
     have hn0 : n ≠ 0 := by
      rintro rfl
      have := g.root.2.2.1
      omega
     have hup := g.upIs c1.1.1 hn0 (fun h => h)
     cases hf : ((nd d (nd d n).up).shadow.flatMap (allM d)).find? (qW1 d (nd d n).up (said d n qVv)) with
     | none => rw [hf] at h; simp at h; omega
     | some k =>
       rw [hf] at h
       simp at h
       subst h
       have h1 := List.find?_some hf
       have h2 := List.mem_of_find?_eq_some hf
       unfold qW1 at h1
       simp at h1
       obtain ⟨c, hc, hk⟩ := List.mem_flatMap.1 h2
       have hci := (g.kid _ true c hup hc).1
       have hu := (qGa g 100 c k hci (by omega)).1 hk
       refine ⟨c1.1.1, hn0, c1.1.2, c2, ?_, h1.1.2, ?_, c, hc, hu⟩
       · unfold qXu
         simp only [Bool.and_eq_true, decide_eq_true_eq]
         exact ⟨qXb.2 ⟨hu.is, by rw [h1.1.1]; decide⟩, h1.1.1⟩
       · intro e
         have := g.root.2.2.2.1
         rw [<- e, c2] at this; simp at this
end
def upP (d : Dc) (n : Int) : Int :=
 if !isM d n false || decide ((nd d n).up < 0) then -1
 else if (nd d n).inS then (nd d n).up
 else if (nd d (nd d n).up).hasS then qWm d n
 else if decide ((nd d (nd d n).up).tag = qVv) && !(qKz d (nd d n).up).isEmpty then -1
 else (nd d n).up
section
variable {d : Dc} {r : Int -> Nat}
theorem qVl {s k : Int} : k ∈ qKz d s ↔ qXu d s = true /\ k ∈ (nd d (qYp d s)).kids /\ qWm d k = s := by
 unfold qKz
 split
 · rename_i h; simp [h]
 · rename_i h; simp [h]
theorem qXf {s : Int} (h : qXu d s = true) : isM d s false = true /\ (nd d s).tag = qVv := by
 unfold qXu at h; simp only [Bool.and_eq_true, decide_eq_true_eq] at h
 exact ⟨qYd h.1, h.2⟩
theorem qZw (g : G0 qZk 16 r d) {n k : Int} : k ∈ qKx d n ↔ isM d n false = true /\ upP d k = n := by
 constructor
 · intro h
   unfold qKx at h
   split at h
   · simp at h
   · rename_i hn
     have hn : isM d n false = true := by simpa using hn
     have hn0 := (qZd.1 hn).1
     refine ⟨hn, ?_⟩
     split at h
     · rename_i hs
       obtain ⟨a, b, c, e, -⟩ := g.kid n true k hn h
       unfold upP
       rw [if_neg (by simp [a, b]; omega), if_pos c, b]
     · rename_i hs
       split at h
       · rename_i hg
         obtain ⟨a, b, c, e, -⟩ := g.kid n false k hn h
         unfold upP
         rw [if_neg (by simp [a, b]; omega), if_neg (by simp [c]), b, if_neg hs, if_neg (by simp [hg])]
       · obtain ⟨a, b, c⟩ := qVl.1 h
         obtain ⟨s1, s2, s3, s4, s5, s6, s7, -⟩ := qKk g c hn0
         have hup := g.upIs s1 s2 (fun h => h)
         have := (qZd.1 hup).1
         unfold upP
         rw [if_neg (by simp [s1]; omega), if_neg (by simp [s3]), if_pos s4, c]
 · rintro ⟨hn, h⟩
   have hn0 := (qZd.1 hn).1
   unfold upP at h
   split at h
   · omega
   · rename_i c1
     simp at c1
     have hk0 : k ≠ 0 := by rintro rfl; have := g.root.2.2.1; omega
     obtain ⟨u1, u2⟩ := g.up k c1.1 hk0 (fun h => h)
     unfold qKx
     rw [if_neg (by simp [hn])]
     split at h
     · rename_i c2
       rw [h, c2] at u2
       unfold qJo listM at u2
       rw [if_pos rfl] at u2
       rw [if_pos ?_]
       · exact u2
       · cases hs : (nd d n).hasS with
         | true => rfl
         | false => rw [(g.ok n).hs hs] at u2; simp at u2
     · rename_i c2
       have c2' : (nd d k).inS = false := by simpa using c2
       rw [c2'] at u2
       unfold qJo listM at u2
       simp only [Bool.false_eq_true, if_false] at u2
       split at h
       · rename_i c3
         obtain ⟨s1, s2, s3, s4, s5, s6, s7, -⟩ := qKk g h hn0
         have hg : k ∈ qKz d n := qVl.2 ⟨s5, by rw [s6]; exact u2, h⟩
         rw [if_neg (by rw [(g.ok n).slot (qXf s5).2]; simp), if_neg (by intro e; rw [List.isEmpty_iff] at e; rw [e] at hg; simp at hg)]
         exact hg
       · rename_i c3
         split at h
         · omega
         · rename_i c4
           rw [h] at c3 c4 u2
           rw [if_neg c3, if_pos ?_]
           · exact u2
           · simp only [Bool.and_eq_true, decide_eq_true_eq, Bool.not_eq_true', not_and, Bool.not_eq_false] at c4
             cases hs : qXu d n with
             | false => unfold qKz; simp [hs]
             | true => exact c4 (qXf hs).2
theorem qVb (g : G0 qZk 16 r d) {n k : Int} (h : k ∈ qKx d n) : isM d n false = true /\ isM d k false = true /\ k ≠ 0 := by
 obtain ⟨a, b⟩ := (qZw g).1 h
 refine ⟨a, ?_⟩
 have hn0 := (qZd.1 a).1
 unfold upP at b
 split at b
 · omega
 · rename_i c1
   simp at c1
   exact ⟨c1.1, by rintro rfl; have := g.root.2.2.1; omega⟩
theorem qH4 (g : G0 qZk 16 r d) (n : Int) : upP d n = -1 ∨ isM d (upP d n) false = true := by
 unfold upP
 split
 · exact .inl rfl
 · rename_i c1
   simp at c1
   have hk0 : n ≠ 0 := by rintro rfl; have := g.root.2.2.1; omega
   have hup := g.upIs c1.1 hk0 (fun h => h)
   split
   · exact .inr hup
   · split
     · by_cases h : 0 <= qWm d n
       · obtain ⟨-, -, -, -, s5, -⟩ := qKk g rfl h
         exact .inr (qXf s5).1
       · left
         unfold qWm at h ⊢
         split
         · rfl
         · rename_i c3
           rw [if_neg c3] at h
           split
           · rfl
           · rename_i c4
             rw [if_neg c4] at h
             cases hf : ((nd d (nd d n).up).shadow.flatMap (allM d)).find? (qW1 d (nd d n).up (said d n qVv)) with
             | none => rfl
             | some k =>
               exfalso
               rw [hf] at h
               obtain ⟨c, hc, hk⟩ := List.mem_flatMap.1 (List.mem_of_find?_eq_some hf)
               have hci := (g.kid _ true c hup hc).1
               have := (qZd.1 ((qGa g 100 c k hci (by omega)).1 hk).is).1
               simp at h; omega
     · split
       · exact .inl rfl
       · exact .inr hup
theorem upR_eq (g : G0 qZk 16 r d) (n : Int) : upR d n = upP d n := by
 unfold upR
 rcases qH4 g n with h | h
 · rw [h]
   have : (List.range d.length).find? (fun k : Nat => (qKx d (k : Int)).contains n) = none := by
    rw [List.find?_eq_none]
    intro k _ hc
    have := ((qZw g).1 (List.contains_iff_mem.1 hc)).2
    omega
   rw [this]; rfl
 · have hl := qYi h
   cases hf : (List.range d.length).find? (fun k : Nat => (qKx d (k : Int)).contains n) with
   | none =>
     exfalso
     rw [List.find?_eq_none] at hf
     refine hf (upP d n).toNat (List.mem_range.2 hl.1) ?_
     rw [hl.2]
     exact List.contains_iff_mem.2 ((qZw g).2 ⟨h, rfl⟩)
   | some k =>
     have h1 := List.find?_some hf
     have := ((qZw g).1 (List.contains_iff_mem.1 h1)).2
     simp [this]
theorem qWn (g : G0 qZk 16 r d) (n : Int) : (qKx d n).Nodup := by
 unfold qKx
 split
 · simp
 · split
   · exact (g.ok n).once true
   · split
     · exact (g.ok n).once false
     · unfold qKz
       split
       · exact ((g.ok _).once false).filter _
       · simp
theorem qWo (g : G0 qZk 16 r d) : Alone (qKx d) (upP d) := ⟨fun _ _ h => ((qZw g).1 h).2, qWn g⟩
def qJf (x : Nd) : Nat := if x.inS then 1 else 2
def qXz (d : Dc) : Nat -> Int -> Nat
 | 0, _ => 0
 | f + 1, n => 3 * qXz d f (nd d n).up + qJf (nd d n)
theorem codeF_lt (d : Dc) : ∀ f n, qXz d f n + 1 <= 3 ^ f := by
 intro f
 induction f with
 | zero => intro n; simp [qXz]
 | succ f ih =>
   intro n
   have := ih (nd d n).up
   have h2 : qJf (nd d n) <= 2 := by unfold qJf; split <;> omega
   rw [qXz, Nat.pow_succ]; omega
def qXg (d : Dc) (r : Int -> Nat) (n : Int) : Nat := qXz d (r n) n * 3 ^ (17 - r n)
theorem qK9 (g : G0 qZk 16 r d) {n : Int} (h : isM d n false = true) (h0 : n ≠ 0) : qXz d (r n) n = 3 * qXz d (r (nd d n).up) (nd d n).up + qJf (nd d n) /\ 3 ^ (17 - r (nd d n).up) = 3 * 3 ^ (17 - r n) := by
 have h1 := g.rank n h
 have h2 := h1.2 h0 (fun h => h)
 refine ⟨by rw [h2, qXz], ?_⟩
 rw [show 17 - r (nd d n).up = (17 - r n) + 1 by omega, Nat.pow_succ, Nat.mul_comm]
theorem qHq (g : G0 qZk 16 r d) {a b : Int} (h : Und d a b) : (qXz d (r b) b + 1) * 3 ^ (17 - r b) <= (qXz d (r a) a + 1) * 3 ^ (17 - r a) := by
 induction h with
 | here _ => exact Nat.le_refl _
 | @step x h1 h2 h3 ih =>
   refine Nat.le_trans ?_ ih
   obtain ⟨a1, a2⟩ := qK9 g h1 h2
   have hd : qJf (nd d x) <= 2 := by unfold qJf; split <;> omega
   rw [a1, a2, <- Nat.mul_assoc]
   exact Nat.mul_le_mul_right _ (by omega)
theorem qGd (g : G0 qZk 16 r d) {n : Int} (h : isM d n false = true) (h0 : n ≠ 0) : qXg d r (nd d n).up < qXg d r n := by
 obtain ⟨a1, a2⟩ := qK9 g h h0
 unfold qXg
 rw [a1, a2, <- Nat.mul_assoc]
 refine Nat.mul_lt_mul_of_pos_right ?_ (Nat.pow_pos (by omega))
 have : 1 <= qJf (nd d n) := by unfold qJf; split <;> omega
 omega
theorem place_le (g : G0 qZk 16 r d) {n : Int} (h : isM d n false = true) : qXg d r n <= 3 ^ 17 := by
 have h1 := (g.rank n h).1
 have h2 := codeF_lt d (r n) n
 have : 3 ^ (r n) * 3 ^ (17 - r n) = 3 ^ 17 := by rw [<- Nat.pow_add]; congr 1; omega
 unfold qXg
 rw [<- this]
 exact Nat.mul_le_mul_right _ (by omega)
theorem qV7 (g : G0 qZk 16 r d) : Falls (qKx d) (fun n => if isM d n false then qXg d r n else 0) (3 ^ 17) := by
 refine ⟨fun n k hk => ?_, fun n => ?_⟩
 · obtain ⟨a, b, c⟩ := qVb g hk
   rw [if_pos a, if_pos b]
   have hu := ((qZw g).1 hk).2
   have hn0 := (qZd.1 a).1
   have hpk := qGd g b c
   unfold upP at hu
   split at hu
   · omega
   · split at hu
     · rw [<- hu]; exact hpk
     · rename_i c2
       have c2 : (nd d k).inS = false := by simpa using c2
       split at hu
       · obtain ⟨-, -, -, -, s5, s6, -, cc, s8, s9⟩ := qKk g hu hn0
         have hup := g.upIs b c (fun h => h)
         obtain ⟨k1, k2, k3, k4, -⟩ := g.kid _ true cc hup s8
         have e1 := qHq g s9
         obtain ⟨p1, p2⟩ := qK9 g k1 k4
         obtain ⟨q1, q2⟩ := qK9 g b c
         rw [k2] at p1 p2
         have d1 : qJf (nd d cc) = 1 := by unfold qJf; rw [k3]; rfl
         have d2 : qJf (nd d k) = 2 := by unfold qJf; rw [c2]; rfl
         unfold qXg
         have hpow : 3 ^ (17 - r cc) = 3 ^ (17 - r k) := by
          have := p2.symm.trans q2
          exact Nat.eq_of_mul_eq_mul_left (by omega) this
         rw [p1, d1, hpow] at e1
         rw [q1, d2]
         refine Nat.lt_of_lt_of_le ?_ e1
         exact Nat.mul_lt_mul_of_pos_right (by omega) (Nat.pow_pos (by omega))
       · split at hu
         · omega
         · rw [<- hu]; exact hpk
 · split
   · rename_i h; exact place_le g h
   · exact Nat.zero_le _
theorem qXm (g : G0 qZk 16 r d) : ∃ μ, Falls (qKx d) μ d.length :=
 (qV7 g).tight d.length (fun n k hk => by have := qYi (qVb g hk).1; omega)
end
end Go.Proofs.Ytklbmkaomojciaa
namespace Go.Proofs.Ytklbmkaomojciaa
def NoS (d : Dc) : Prop := ∀ x ∈ d, x.hasS = false
theorem NoS.ofNd {d : Dc} (h : NoS d) (n : Int) : (nd d n).hasS = false := by
 unfold Proofs.Ytklbmkaomojciaa.nd
 rcases Nat.lt_or_ge n.toNat d.length with e | e
 · rw [List.getElem?_eq_getElem e]; exact h _ (List.getElem_mem e)
 · rw [List.getElem?_eq_none e]; rfl
theorem NoS.with {d : Dc} (h : NoS d) (k : Nat) {x : Nd} (hx : x.hasS = false) : NoS (qBt d k x) := by
 unfold qBt
 split
 · intro y hy
   rcases List.mem_append.1 hy with hy | hy
   · exact h y hy
   · simp at hy; subst hy; exact hx
 · intro y hy
   rcases List.mem_or_eq_of_mem_set hy with hy | rfl
   · exact h y hy
   · exact hx
theorem NoS.put {d : Dc} (h : NoS d) (k t before : Int) (sh : Bool) : NoS (putM d k t before sh).2 := by
 unfold putM
 split
 · intro x hx; simp at hx
 · split
   · intro x hx; simp at hx
   · split
     · intro x hx; simp at hx
     · refine NoS.with h _ ?_
       rw [(qVo _ _ _).2.2.2.2.2.1]; exact h.ofNd t
theorem NoS.take {d : Dc} (h : NoS d) (k : Int) : NoS (takeM d k) := NoS.with h _ (h.ofNd _)
theorem qYe {d : Dc} (g : Good d) : (qJ3 d).Nodup /\ ∀ n ∈ qJ3 d, isM d n false = true := by
 obtain ⟨r, g'⟩ := g.tree
 obtain ⟨μ, F⟩ := qXm g'
 have hl := g.len
 refine ⟨qXi F (qWo g') 100 0 (by omega), fun n hn => ?_⟩
 have hr := (qKr F 100 0 n (by omega)).1 hn
 cases hr with
 | here => exact g'.is0
 | step _ h => exact (qVb g' h).2.1
end Go.Proofs.Ytklbmkaomojciaa
namespace Go.Proofs.Ytklbmkaomojciaa
structure Clm where
 owner : Int
 kid : Int
 deriving DecidableEq
def qJe (l : List Clm) (n : Int) : Int := ((l.find? (fun c => c.kid == n)).map (·.owner)).getD (-1)
def inM (d : Dc) (l : List Clm) (n : Int) : Int := if 0 <= qJe l n then qJe l n else upR d n
def qYj (up : Int -> Int) : Nat -> Int -> List Int
 | 0, _ => []
 | f + 1, n => if n < 0 then [] else n :: qYj up f (up n)
structure Rises (up : Int -> Int) (μ : Int -> Nat) : Prop where
 up : ∀ n, 0 <= n -> 0 <= up n -> μ (up n) < μ n
inductive On (up : Int -> Int) : Int -> Int -> Prop
 | here {n : Int} : 0 <= n -> On up n n
 | step {n x : Int} : 0 <= n -> On up (up n) x -> On up n x
section
variable {up : Int -> Int} {μ : Int -> Nat}
theorem On.ge {n x : Int} (h : On up n x) : 0 <= n := by cases h <;> assumption
theorem On.le (R : Rises up μ) {n x : Int} (h : On up n x) : μ x <= μ n := by
 induction h with
 | here _ => exact Nat.le_refl _
 | @step n x h1 h2 ih => have := R.up n h1 h2.ge; omega
theorem qGe (R : Rises up μ) : ∀ f n x, μ n < f -> (x ∈ qYj up f n ↔ On up n x) := by
 intro f
 induction f with
 | zero => intro n x h; omega
 | succ f ih =>
   intro n x h
   rw [qYj]
   split
   · rename_i hn
     constructor
     · intro h; simp at h
     · intro h; have := h.ge; omega
   · rename_i hn
     rw [List.mem_cons]
     by_cases hu : 0 <= up n
     · have := R.up n (by omega) hu
       rw [ih (up n) x (by omega)]
       constructor
       · rintro (rfl | h)
         · exact .here (by omega)
         · exact .step (by omega) h
       · intro h
         cases h with
         | here _ => exact .inl rfl
         | step _ h => exact .inr h
     · have e : qYj up f (up n) = [] := by cases f <;> simp [qYj]; omega
       rw [e]
       constructor
       · rintro (rfl | h)
         · exact .here (by omega)
         · simp at h
       · intro h
         cases h with
         | here _ => exact .inl rfl
         | step _ h => have := h.ge; omega
open Classical in
theorem Rises.owned (R : Rises up μ) {o k : Int} (ho : ¬ On up o k) : ∃ μ', Rises (fun n => if n = k then o else up n) μ' := by
 refine ⟨fun n => if On up n k then μ n + (μ o + 1) else μ n, ⟨fun n hn hu => ?_⟩⟩
 by_cases e : n = k
 · subst e
   rw [if_pos rfl] at hu ⊢
   rw [if_neg ho, if_pos (.here hn)]
   omega
 · rw [if_neg e] at hu ⊢
   have h1 := R.up n hn hu
   by_cases h2 : On up n k
   · have h3 : On up (up n) k := by
      cases h2 with
      | here _ => exact absurd rfl e
      | step _ h => exact h
     rw [if_pos h2, if_pos h3]; omega
   · rw [if_neg h2, if_neg (fun h => h2 (.step hn h))]; exact h1
end
theorem Rises.tight {up : Int -> Int} {μ : Int -> Nat} (R : Rises up μ) (L : Nat) (hin : ∀ n, 0 <= n -> 0 <= up n -> up n < L) : ∃ μ', Rises up μ' /\ ∀ n, μ' n <= L := by
 refine ⟨fun n => ((List.range L).filter (fun x : Nat => decide (μ (x : Int) < μ n))).length, ⟨fun n hn hu => ?_⟩, fun n => ?_⟩
 · have h1 := R.up n hn hu
   have h2 := hin n hn hu
   have hsub : ∀ l : List Nat, (l.filter (fun x : Nat => decide (μ (x : Int) < μ (up n)))).length <= (l.filter (fun x : Nat => decide (μ (x : Int) < μ n))).length := by
    intro l
    induction l with
    | nil => simp
    | cons a l ih =>
      simp only [List.filter_cons, decide_eq_true_eq]
      split
      · rw [if_pos (by omega)]; simp; exact ih
      · split
        · simp; omega
        · exact ih
   obtain ⟨l1, l2, e⟩ := List.append_of_mem (List.mem_range.2 (show (up n).toNat < L by omega))
   rw [e]
   simp only [List.filter_append, List.filter_cons, List.length_append, decide_eq_true_eq]
   rw [if_neg (by rw [show (((up n).toNat : Nat) : Int) = up n by omega]; omega), if_pos (by rw [show (((up n).toNat : Nat) : Int) = up n by omega]; exact h1)]
   have a1 := hsub l1
   have a2 := hsub l2
   simp only [List.length_cons]
   omega
 · exact Nat.le_trans (List.length_filter_le _ _) (by simp)
def ownsT : Txt := [97, 114, 105, 97, 45, 111, 119, 110, 115]
def idT : Txt := [105, 100]
def qBn (d : Dc) (n : Int) (id : Txt) : Int :=
 if id.isEmpty || !isM d n false then -1
 else ((allM d 0).find? (fun k => decide (said d k idT = id) && decide (qYp d k = qYp d n))).getD (-1)
def onB (d : Dc) (l : List Clm) (n k : Int) : Bool := (qYj (inM d l) 100 n).contains k
def qKe (d : Dc) (n : Int) (l : List Clm) (id : Txt) : List Clm :=
 if qBn d n id < 1 || !(qJ3 d).contains (qBn d n id) || decide (0 <= qJe l (qBn d n id)) || onB d l n (qBn d n id) then l else l ++ [⟨n, qBn d n id⟩]
def claimsOf (d : Dc) (l : List Clm) (n : Int) : List Clm := (toks (said d n ownsT)).foldl (qKe d n) l
structure ClmOk (d : Dc) (l : List Clm) : Prop where
 rises : ∃ μ, Rises (inM d l) μ
 once : (l.map (·.kid)).Nodup
 kid : ∀ c ∈ l, c.kid ∈ qJ3 d /\ 1 <= c.kid
 owner : ∀ c ∈ l, c.owner ∈ qJ3 d
theorem qYk {l : List Clm} {n : Int} (h : ∀ c ∈ l, 0 <= c.owner) : qJe l n < 0 ↔ ∀ c ∈ l, c.kid ≠ n := by
 unfold qJe
 cases hf : l.find? (fun c => c.kid == n) with
 | none =>
   rw [List.find?_eq_none] at hf
   simp at hf ⊢
   exact hf
 | some c =>
   have h1 := List.find?_some hf
   have h2 := List.mem_of_find?_eq_some hf
   have := h c h2
   simp at h1
   constructor
   · intro h; simp at h; omega
   · intro h; exact absurd h1 (h c h2)
theorem qBy {l : List Clm} {o k n : Int} (hk : qJe l k < 0) (hl : ∀ c ∈ l, 0 <= c.owner) : qJe (l ++ [⟨o, k⟩]) n = if n = k then o else qJe l n := by
 unfold qJe
 rw [List.find?_append]
 by_cases e : n = k
 · subst e
   have : l.find? (fun c => c.kid == n) = none := by
    rw [List.find?_eq_none]; intro c hc; simp; exact (qYk hl).1 hk c hc
   rw [this, if_pos rfl]
   simp
 · rw [if_neg e]
   have : ([⟨o, k⟩] : List Clm).find? (fun c => c.kid == n) = none := by
    simp; exact fun h => e h.symm
   rw [this]; simp
section
variable {d : Dc}
theorem qW4 (g : Good d) {n : Int} (h : n ∈ qJ3 d) : 0 <= n := (qZd.1 ((qYe g).2 n h)).1
theorem ClmOk.owner_ge {l : List Clm} (g : Good d) (h : ClmOk d l) : ∀ c ∈ l, 0 <= c.owner := fun c hc => qW4 g (h.owner c hc)
theorem upR_lt (g : Good d) (n : Int) : upR d n < d.length := by
 obtain ⟨r, g'⟩ := g.tree
 rw [upR_eq g']
 rcases qH4 g' n with h | h
 · omega
 · have := qYi h; omega
theorem inM_lt (g : Good d) {l : List Clm} (h : ClmOk d l) (n : Int) : inM d l n < d.length := by
 unfold inM
 split
 · rename_i ho
   unfold qJe at ho ⊢
   cases hf : l.find? (fun c => c.kid == n) with
   | none => rw [hf] at ho; simp at ho
   | some c =>
     have := qYi ((qYe g).2 _ (h.owner c (List.mem_of_find?_eq_some hf)))
     simp; omega
 · exact upR_lt g n
theorem ClmOk.tight (g : Good d) {l : List Clm} (h : ClmOk d l) : ∃ μ, Rises (inM d l) μ /\ ∀ n, μ n < 100 := by
 obtain ⟨μ, R⟩ := h.rises
 obtain ⟨μ', R', hl⟩ := R.tight d.length (fun n _ _ => inM_lt g h n)
 have := g.len
 exact ⟨μ', R', fun n => by have := hl n; omega⟩
theorem onB_iff (g : Good d) {l : List Clm} (h : ClmOk d l) {n k : Int} : onB d l n k = true ↔ On (inM d l) n k := by
 obtain ⟨μ, R, hl⟩ := h.tight g
 unfold onB
 rw [List.contains_iff_mem]
 exact qGe R 100 n k (hl n)
theorem ClmOk.nil (g : Good d) : ClmOk d [] := by
 obtain ⟨r, g'⟩ := g.tree
 obtain ⟨μ, F⟩ := qXm g'
 refine ⟨⟨μ, ⟨fun n hn hu => ?_⟩⟩, by simp, by simp, by simp⟩
 have e : inM d [] n = upR d n := by unfold inM qJe; simp
 rw [e] at hu ⊢
 rw [upR_eq g'] at hu ⊢
 rcases qH4 g' n with h | h
 · omega
 · exact F.down _ _ ((qZw g').2 ⟨h, rfl⟩)
theorem ClmOk.step (g : Good d) {l : List Clm} (h : ClmOk d l) {n : Int} (hn : n ∈ qJ3 d) (id : Txt) : ClmOk d (qKe d n l id) := by
 unfold qKe
 split
 · exact h
 · rename_i c
   simp only [Bool.or_eq_true, decide_eq_true_eq, Bool.not_eq_true', not_or, Bool.not_eq_false] at c
   obtain ⟨⟨⟨c1, c2⟩, c3⟩, c4⟩ := c
   generalize qBn d n id = k at *
   have hk : k ∈ qJ3 d := List.contains_iff_mem.1 c2
   have hn0 := qW4 g hn
   obtain ⟨μ, R⟩ := h.rises
   have hno : ¬ On (inM d l) n k := fun e => c4 ((onB_iff g h).2 e)
   have hk0 : qJe l k < 0 := by omega
   have hog := h.owner_ge g
   refine ⟨?_, ?_, ?_, ?_⟩
   · obtain ⟨μ', R'⟩ := R.owned hno
     refine ⟨μ', ⟨fun x hx hu => ?_⟩⟩
     have e : inM d (l ++ [⟨n, k⟩]) x = if x = k then n else inM d l x := by
      unfold inM
      rw [qBy hk0 hog]
      split
      · rfl
      · rfl
     rw [e] at hu ⊢
     exact R'.up x hx hu
   · rw [List.map_append, List.nodup_append]
     refine ⟨h.once, by simp, ?_⟩
     intro a ha b hb e
     simp at hb
     obtain ⟨c, hc, rfl⟩ := List.mem_map.1 ha
     exact (qYk hog).1 hk0 c hc (e.trans hb)
   · intro c hc
     rcases List.mem_append.1 hc with hc | hc
     · exact h.kid c hc
     · simp at hc; subst hc; exact ⟨hk, show 1 <= k by omega⟩
   · intro c hc
     rcases List.mem_append.1 hc with hc | hc
     · exact h.owner c hc
     · simp at hc; subst hc; exact hn
theorem ClmOk.of (g : Good d) {n : Int} (hn : n ∈ qJ3 d) : ∀ (ws : List Txt) (l : List Clm), ClmOk d l -> ClmOk d (ws.foldl (qKe d n) l) := by
 intro ws
 induction ws with
 | nil => intro l h; exact h
 | cons w ws ih => intro l h; exact ih _ (h.step g hn w)
theorem ClmOk.all (g : Good d) : ∀ (ns : List Int) (l : List Clm), (∀ n ∈ ns, n ∈ qJ3 d) -> ClmOk d l -> ClmOk d (ns.foldl (claimsOf d) l) := by
 intro ns
 induction ns with
 | nil => intro l _ h; exact h
 | cons n ns ih => intro l hn h; exact ih _ (fun m hm => hn m (by simp [hm])) (ClmOk.of g (hn n (by simp)) _ _ h)
end
end Go.Proofs.Ytklbmkaomojciaa
namespace Go.Proofs.Ytklbmkaomojciaa
abbrev Str := List UInt8
structure Kd where
 name : Str
 content : Bool := false
 leaf : Bool := false
 level : Bool := false
 checked : Bool := false
 named : Bool := false
 need : Int := 0
 deriving DecidableEq
end Go.Proofs.Ytklbmkaomojciaa
namespace Go.Proofs.Ytklbmkaomojciaa
def aT : Txt := [97]
section
variable {d : Dc}
end
end Go.Proofs.Ytklbmkaomojciaa
namespace Go.Proofs.Ytklbmkaomojciaa
structure St where
 had : Int -> Bool
 asked : Int -> Bool
def qJ1 (d : Dc) (h : Int -> Bool) : Nat := (List.range d.length).countP (fun k : Nat => !h (k : Int))
structure Does (d : Dc) (s : St) (r : Txt × St) : Prop where
 had : ∀ x, s.had x = true -> r.2.had x = true
 asked : ∀ x, s.asked x = true -> r.2.asked x = true
 len : r.1.length + 61 * qJ1 d r.2.had <= 61 * qJ1 d s.had
 free : qJ1 d r.2.had <= qJ1 d s.had
theorem Does.none {d : Dc} (s : St) : Does d s ([], s) := ⟨fun _ h => h, fun _ h => h, by simp, Nat.le_refl _⟩
structure DoesS (d : Dc) (s : St) (r : Txt × St) : Prop where
 had : ∀ x, s.had x = true -> r.2.had x = true
 asked : ∀ x, s.asked x = true -> r.2.asked x = true
 len : r.1.length <= 60 ∨ r.1.length + 61 * qJ1 d r.2.had <= 61 * qJ1 d s.had
 free : qJ1 d r.2.had <= qJ1 d s.had
theorem Does.s {d : Dc} {s : St} {r : Txt × St} (h : Does d s r) : DoesS d s r := ⟨h.had, h.asked, .inr h.len, h.free⟩
theorem DoesS.short {d : Dc} (s : St) {t : Txt} (h : t.length <= 60) : DoesS d s (t, s) := ⟨fun _ h => h, fun _ h => h, .inl h, Nat.le_refl _⟩
theorem DoesS.then {d : Dc} {s : St} {r r' : Txt × St} (h : DoesS d s r) (k : DoesS d r.2 r') : DoesS d s r' := by
 refine ⟨fun x hx => k.had x (h.had x hx), fun x hx => k.asked x (h.asked x hx), ?_, Nat.le_trans k.free h.free⟩
 have := h.free
 rcases k.len with h1 | h1
 · exact .inl h1
 · right; omega
structure DoesL (d : Dc) (s : St) (r : List Txt × St) : Prop where
 had : ∀ x, s.had x = true -> r.2.had x = true
 asked : ∀ x, s.asked x = true -> r.2.asked x = true
 len : (r.1.map (fun t => t.length + 1)).sum + 61 * qJ1 d r.2.had <= 61 * qJ1 d s.had
 free : qJ1 d r.2.had <= qJ1 d s.had
structure Does1 (d : Dc) (s : St) (r : Txt × St) : Prop where
 had : ∀ x, s.had x = true -> r.2.had x = true
 asked : ∀ x, s.asked x = true -> r.2.asked x = true
 len : r.1.length + 1 + 61 * qJ1 d r.2.had <= 61 * qJ1 d s.had
 free : qJ1 d r.2.had + 1 <= qJ1 d s.had
end Go.Proofs.Ytklbmkaomojciaa
