/- Plain laws: words, documents, who is in what, kinds, roles, names. -/
import GoSem.Op.String
namespace Go.Proofs.YtojgmfhkiboeoaaDoor
abbrev L := List UInt8
def blank (c : UInt8) : Bool := c == 32 || c == 9 || c == 10 || c == 13
def toksF : Option L → L → List L
  | none, [] => []
  | some w, [] => [w]
  | none, c :: r => if blank c then toksF none r else toksF (some [c]) r
  | some w, c :: r => if blank c then w :: toksF none r else toksF (some (w ++ [c])) r
def toks (s : L) : List L := toksF none s
def join : List L → L
  | [] => []
  | [w] => w
  | w :: v :: r => w ++ 32 :: join (v :: r)
def squeeze (s : L) : L := join (toks s)
def digit (c : UInt8) : Bool := 48 ≤ c && c ≤ 57
def numF (n : Int) : L → Int
  | [] => n
  | c :: r => if digit c then numF (10 * n + ((c.toNat : Int) - 48)) r else 0
def num (s : L) : Int := if 1 ≤ (squeeze s).length ∧ (squeeze s).length ≤ 2 then numF 0 (squeeze s) else 0
def small (c : UInt8) : Bool := 97 ≤ c && c ≤ 122
def okc (c : UInt8) : Bool := small c || c == 45 || digit c
def chk (i : Nat) (c : UInt8) : Bool := small c || (i != 0 && okc c)
def chkAll (i : Nat) : L → Bool
  | [] => true
  | c :: r => chk i c && chkAll (i + 1) r
def name (s : L) : Bool := decide (1 ≤ s.length) && decide (s.length ≤ 20) && chkAll 0 s
end Go.Proofs.YtojgmfhkiboeoaaDoor
namespace Go.Proofs.YtojgmfhkiboeoaaDoor
abbrev Txt := List UInt8
structure Att where
  name : Txt
  value : Txt
  deriving DecidableEq
structure Nd where
  live : Bool := false
  tag : Txt := []
  text : Txt := []
  attrs : List Att := []
  up : Int := 0
  kids : List Int := []
  hasS : Bool := false
  shadow : List Int := []
  inS : Bool := false
  deriving DecidableEq
abbrev Dc := List Nd
def nd (d : Dc) (n : Int) : Nd := d[n.toNat]?.getD {}
def isM (d : Dc) (n : Int) (el : Bool) : Bool := decide (0 ≤ n) && decide (n < (d.length : Int)) && (nd d n).live && (!el || !(nd d n).tag.isEmpty)
theorem isM_el {d : Dc} {n : Int} {el : Bool} (h : isM d n el = true) : isM d n false = true := by
  simp [isM] at h ⊢
  exact h.1
def attrOf (l : List Att) (name : Txt) : Option Txt := (l.find? (fun a => a.name == name)).map (·.value)
def attrM (d : Dc) (n : Int) (name : Txt) : Option Txt := if isM d n true then attrOf (nd d n).attrs name else none
def pathF (d : Dc) : Nat → Int → List Int
  | 0, _ => []
  | f + 1, n => if isM d n false then n :: pathF d f (nd d n).up else []
def pathM (d : Dc) (n : Int) : List Int := pathF d (d.length + 1) n
def withinM (d : Dc) (n i : Int) : Bool := (pathM d n).contains i
def scopeM (d : Dc) (n : Int) : Int := (((pathM d n).find? (fun k => (nd d k).inS && decide (0 ≤ (nd d k).up))).map (fun k => (nd d k).up)).getD 0
def allF (d : Dc) : Nat → Int → List Int
  | 0, _ => []
  | f + 1, n => if isM d n false then n :: ((nd d n).shadow ++ (nd d n).kids).flatMap (allF d f) else []
def Ends (d : Dc) : Nat → Int → Prop
  | 0, _ => False
  | f + 1, n => isM d n false = true → ∀ k ∈ (nd d n).shadow ++ (nd d n).kids, Ends d f k
theorem Ends.more {d : Dc} : ∀ {f n}, Ends d f n → Ends d (f + 1) n := by
  intro f
  induction f with
  | zero => intro n h; exact h.elim
  | succ f ih => intro n h hi k hk; exact ih (h hi k hk)
theorem Ends.le {d : Dc} {f g : Nat} {n : Int} (h : Ends d f n) (hg : f ≤ g) : Ends d g n := by
  induction hg with
  | refl => exact h
  | step _ ih => exact ih.more
def maxL (l : List Nat) : Nat := l.foldl max 0
def deepestF (d : Dc) : Nat → Int → Nat
  | 0, _ => 0
  | f + 1, n => maxL (((nd d n).shadow ++ (nd d n).kids).map (fun k => 1 + deepestF d f k))
end Go.Proofs.YtojgmfhkiboeoaaDoor
namespace Go.Proofs.YtojgmfhkiboeoaaDoor
structure Chg where
  kind : Int := 0
  node : Int := 0
  dest : Int := 0
  before : Int := 0
  name : Txt := []
  value : Txt := []
  deriving DecidableEq
def withM (d : Dc) (k : Nat) (x : Nd) : Dc := if k = d.length then d ++ [x] else d.set k x
def withoutM (l : List Int) (k : Int) : List Int := l.filter (fun x => x != k)
def atF (x : Int) : List Int → Nat → Int → Int
  | [], _, a => a
  | y :: l, i, a => atF x l (i + 1) (if y = x then (i : Int) else a)
def deepestM (d : Dc) (k : Int) : Nat := deepestF d 100 k
def allM (d : Dc) (k : Int) : List Int := allF d 100 k
def insM (l : List Int) (a : Nat) (k : Int) : List Int := l.take a ++ [k] ++ l.drop a
def listM (x : Nd) (sh : Bool) : List Int := if sh then x.shadow else x.kids
def setList (x : Nd) (sh : Bool) (l : List Int) : Nd := if sh then { x with shadow := l } else { x with kids := l }
def putAt (l : List Int) (before : Int) : Int := if 0 ≤ before then atF before l 0 (-1) else l.length
def putD (d : Dc) (k i before : Int) (sh : Bool) : Dc := withM d i.toNat (setList (nd d i) sh (insM (listM (nd d i) sh) (putAt (listM (nd d i) sh) before).toNat k))
def putM (d : Dc) (k i before : Int) (sh : Bool) : Int × Dc :=
  if putAt (listM (nd d i) sh) before < 0 then (8, [])
  else if 12 ≤ (listM (nd d i) sh).length then (5, [])
  else if 16 < ((pathM (putD d k i before sh) k).length : Int) - 1 + deepestM (putD d k i before sh) k then (3, [])
  else (0, putD d k i before sh)
def freeM (d : Dc) : Nat := d.findIdx (fun x => !x.live)
def makeM (d : Dc) (x : Nd) (i before : Int) (sh : Bool) : Int × Int × Dc :=
  if 60 ≤ freeM d then (5, 0, [])
  else
    let r := putM (withM d (freeM d) { x with live := true, up := i, inS := sh }) (freeM d) i before sh
    (r.1, freeM d, r.2)
def takeM (d : Dc) (k : Int) : Dc :=
  withM d (nd d k).up.toNat { nd d (nd d k).up with kids := withoutM (nd d (nd d k).up).kids k, shadow := withoutM (nd d (nd d k).up).shadow k }
def attStep (name value : Txt) (p : List Att × Bool) (a : Att) : List Att × Bool :=
  if a.name = name then (p.1 ++ [⟨a.name, value⟩], true)
  else if !Op.bytesLess a.name name && !p.2 then (p.1 ++ [⟨name, value⟩, a], true)
  else (p.1 ++ [a], p.2)
def attsF (l : List Att) (name value : Txt) : List Att × Bool := l.foldl (attStep name value) ([], false)
def attsM (l : List Att) (name value : Txt) : List Att := if (attsF l name value).2 then (attsF l name value).1 else (attsF l name value).1 ++ [⟨name, value⟩]
def mainT : Txt := [109, 97, 105, 110]
def slotT : Txt := [115, 108, 111, 116]
def blankAll (d : Dc) (l : List Int) : Dc := l.foldl (fun d k => withM d k.toNat {}) d
def moveM (d : Dc) (x : Chg) : Int × Int × Dc :=
  if x.node = 0 || !isM d x.dest true then (8, 0, [])
  else if withinM d x.dest x.node then (9, 0, [])
  else if x.before = x.node then (8, 0, [])
  else
    let r := putM (withM (takeM d x.node) x.node.toNat { nd d x.node with up := x.dest, inS := false }) x.node x.dest x.before false
    (r.1, x.node, r.2)
def removeM (d : Dc) (x : Chg) : Int × Int × Dc :=
  if x.node = 0 then (8, 0, []) else (0, x.node, blankAll (takeM d x.node) (allM d x.node))
def sayM (d : Dc) (x : Chg) : Int × Int × Dc :=
  if !(nd d x.node).tag.isEmpty || 60 < x.value.length then (8, 0, []) else (0, x.node, withM d x.node.toNat { nd d x.node with text := x.value })
def attrChM (d : Dc) (x : Chg) : Int × Int × Dc :=
  if !name x.name then (7, 0, [])
  else if 60 < x.value.length then (4, 0, [])
  else if 8 < (attsM (nd d x.node).attrs x.name x.value).length then (5, 0, [])
  else (0, x.node, withM d x.node.toNat { nd d x.node with attrs := attsM (nd d x.node).attrs x.name x.value })
def clearM (d : Dc) (x : Chg) : Int × Int × Dc :=
  if (attrM d x.node x.name).isNone then (6, 0, [])
  else (0, x.node, withM d x.node.toNat { nd d x.node with attrs := (nd d x.node).attrs.filter (fun a => a.name != x.name) })
def shadowM (d : Dc) (x : Chg) : Int × Int × Dc :=
  if x.node = 0 || (nd d x.node).hasS || (nd d x.node).tag == slotT then (8, 0, []) else (0, x.node, withM d x.node.toNat { nd d x.node with hasS := true })
def isTextK (k : Int) : Bool := k == 2 || k == 10
def isShK (k : Int) : Bool := k == 9 || k == 10
def newNd (x : Chg) : Nd := if isTextK x.kind then { text := x.value } else { tag := x.name }
def insideM (d : Dc) (x : Chg) : Int × Int × Dc :=
  if isTextK x.kind && decide (60 < x.value.length) then (4, 0, [])
  else if !isTextK x.kind && !name x.name then (7, 0, [])
  else if isShK x.kind && !(nd d x.node).hasS then (8, 0, [])
  else makeM d (newNd x) x.node (if isShK x.kind then -1 else x.before) (isShK x.kind)
def changeM (d : Dc) (x : Chg) : Int × Int × Dc :=
  if x.kind = 3 then moveM d x
  else if x.kind = 4 then removeM d x
  else if x.kind = 7 then sayM d x
  else if (nd d x.node).tag.isEmpty then (8, 0, [])
  else if x.kind = 5 then attrChM d x
  else if x.kind = 6 then clearM d x
  else if x.kind = 8 then shadowM d x
  else insideM d x
def lastF : Dc → Nat → Nat → Nat
  | [], _, a => a
  | x :: d, i, a => lastF d (i + 1) (if x.live && decide (a ≤ i) then i + 1 else a)
def trimM (d : Dc) : Dc := d.take (lastF d 0 1)
def applyM (d : Dc) (x : Chg) : Int × Int × Dc :=
  if x.kind < 1 || 10 < x.kind then (1, 0, [])
  else if !isM d x.node false then (6, 0, [])
  else if (changeM d x).1 = 0 then (0, (changeM d x).2.1, trimM (changeM d x).2.2) else ((changeM d x).1, 0, [])
def rootD : Dc := [{ live := true, tag := mainT, up := -1 }]
def buildStep (d : Dc) (x : Chg) : Dc := if (applyM d x).1 = 0 then (applyM d x).2.2 else d
def buildM (l : List Chg) : Dc := l.foldl buildStep rootD
end Go.Proofs.YtojgmfhkiboeoaaDoor
namespace Go.Proofs.YtojgmfhkiboeoaaDoor
theorem isM_nd {d : Dc} {n : Int} : isM d n false = true ↔ 0 ≤ n ∧ (nd d n).live = true := by
  unfold isM nd
  constructor
  · intro h; simp at h; exact ⟨h.1.1, by simpa using h.2⟩
  · rintro ⟨h1, h2⟩
    have : n.toNat < d.length := by
      rcases Nat.lt_or_ge n.toNat d.length with h | h
      · exact h
      · rw [List.getElem?_eq_none h] at h2; simp at h2
    simp [h1, h2]; omega
theorem isM_lt {d : Dc} {n : Int} (h : isM d n false = true) : n.toNat < d.length ∧ (n.toNat : Int) = n := by
  simp [isM] at h; omega
theorem isM_tag {d : Dc} {n : Int} : isM d n true = true ↔ isM d n false = true ∧ (nd d n).tag ≠ [] := by
  simp [isM]
def listOf (d : Dc) (n : Int) (sh : Bool) : List Int := listM (nd d n) sh
def Rising : List Att → Prop := List.Pairwise (fun a b => Op.bytesLess a.name b.name = true)
structure NdOk (x : Nd) : Prop where
  few : ∀ sh, (listM x sh).length ≤ 12
  once : ∀ sh, (listM x sh).Nodup
  text : x.tag = [] → x.kids = [] ∧ x.shadow = [] ∧ x.attrs = [] ∧ x.hasS = false
  hs : x.hasS = false → x.shadow = []
  slot : x.tag = slotT → x.hasS = false
  rising : Rising x.attrs
  few8 : x.attrs.length ≤ 8
  atts : ∀ a ∈ x.attrs, a.name.length ≤ 20 ∧ a.value.length ≤ 60
  short : x.text.length ≤ 60 ∧ x.tag.length ≤ 20
theorem NdOk.blank : NdOk {} := by
  refine ⟨?_, ?_, ?_, ?_, ?_, ?_, ?_, ?_, ?_⟩ <;> simp [listM, Rising]
structure G0 (free : Int → Prop) (R : Nat) (r : Int → Nat) (d : Dc) : Prop where
  root : (nd d 0).live = true ∧ (nd d 0).tag = mainT ∧ (nd d 0).up = -1 ∧ (nd d 0).hasS = false ∧ (nd d 0).inS = false
  up : ∀ n, isM d n false = true → n ≠ 0 → ¬ free n → isM d (nd d n).up true = true ∧ n ∈ listOf d (nd d n).up (nd d n).inS
  kid : ∀ n sh k, isM d n false = true → k ∈ listOf d n sh → isM d k false = true ∧ (nd d k).up = n ∧ (nd d k).inS = sh ∧ k ≠ 0 ∧ ¬ free k
  ok : ∀ n, NdOk (nd d n)
  blank : ∀ n, (nd d n).live = false → nd d n = {}
  rank : ∀ n, isM d n false = true → r n ≤ R ∧ (n ≠ 0 → ¬ free n → r n = r (nd d n).up + 1)
  rank0 : r 0 = 0
def NoFree : Int → Prop := fun _ => False
structure Good (d : Dc) : Prop where
  len : d.length ≤ 60
  tree : ∃ r, G0 NoFree 16 r d
  last : d.length = 1 ∨ isM d ((d.length : Int) - 1) false = true
inductive Und (d : Dc) (n : Int) : Int → Prop
  | here : isM d n false = true → Und d n n
  | step {x : Int} : isM d x false = true → x ≠ 0 → Und d n (nd d x).up → Und d n x
theorem Und.is {d : Dc} {n x : Int} (h : Und d n x) : isM d x false = true := by cases h <;> assumption
theorem Und.top {d : Dc} {n x : Int} (h : Und d n x) : isM d n false = true := by induction h with | here h => exact h | step _ _ _ ih => exact ih
theorem Und.trans {d : Dc} {a b c : Int} (h : Und d b c) (k : Und d a b) : Und d a c := by
  induction h with
  | here _ => exact k
  | step h1 h2 _ ih => exact .step h1 h2 ih
theorem Und.down {d : Dc} {n x : Int} (h : Und d n x) : x = n ∨ ∃ k, isM d k false = true ∧ k ≠ 0 ∧ (nd d k).up = n ∧ Und d k x := by
  induction h with
  | here _ => exact .inl rfl
  | @step x h1 h2 _ ih =>
    right
    rcases ih with ih | ⟨k, a, b, c, e⟩
    · exact ⟨x, h1, h2, ih, .here h1⟩
    · exact ⟨k, a, b, c, .step h1 h2 e⟩
section
variable {d : Dc} {free : Int → Prop} {R : Nat} {r : Int → Nat}
theorem G0.is0 (g : G0 free R r d) : isM d 0 false = true := isM_nd.2 ⟨by omega, g.root.1⟩
theorem G0.pos (g : G0 free R r d) : 0 < d.length := by have := (isM_lt g.is0).1; omega
theorem G0.upIs (g : G0 free R r d) {n : Int} (h : isM d n false = true) (h0 : n ≠ 0) (hf : ¬ free n) : isM d (nd d n).up false = true := isM_el (g.up n h h0 hf).1
theorem Und.le (g : G0 NoFree R r d) {n x : Int} (h : Und d n x) : r n ≤ r x := by
  induction h with
  | here _ => exact Nat.le_refl _
  | step h1 h2 _ ih => have := (g.rank _ h1).2 h2 (fun h => h); omega
theorem Und.root (g : G0 NoFree R r d) {x : Int} (h : isM d x false = true) : Und d 0 x := by
  have : ∀ m x, isM d x false = true → r x = m → Und d 0 x := by
    intro m
    induction m with
    | zero =>
      intro x hx hr
      by_cases h0 : x = 0
      · subst h0; exact .here hx
      · have := (g.rank x hx).2 h0 (fun h => h); omega
    | succ m ih =>
      intro x hx hr
      by_cases h0 : x = 0
      · subst h0; exact .here hx
      · have h1 := (g.rank x hx).2 h0 (fun h => h)
        exact .step hx h0 (ih _ (g.upIs hx h0 (fun h => h)) (by omega))
  exact this _ x h rfl
end
section
variable {d : Dc} {R : Nat} {r : Int → Nat}
theorem listOf_mem (g : G0 NoFree R r d) {n k : Int} (h : isM d n false = true) : k ∈ (nd d n).shadow ++ (nd d n).kids ↔ isM d k false = true ∧ k ≠ 0 ∧ (nd d k).up = n := by
  constructor
  · intro hk
    rcases List.mem_append.1 hk with hk | hk
    · have := g.kid n true k h hk; exact ⟨this.1, this.2.2.2.1, this.2.1⟩
    · have := g.kid n false k h hk; exact ⟨this.1, this.2.2.2.1, this.2.1⟩
  · rintro ⟨h1, h2, rfl⟩
    have := (g.up k h1 h2 (fun h => h)).2
    unfold listOf listM at this
    split at this
    · exact List.mem_append_left _ this
    · exact List.mem_append_right _ this
theorem mem_all (g : G0 NoFree R r d) : ∀ f n x, isM d n false = true → R < r n + f → (x ∈ allF d f n ↔ Und d n x) := by
  intro f
  induction f with
  | zero => intro n x h hf; have := (g.rank n h).1; omega
  | succ f ih =>
    intro n x h hf
    rw [allF, if_pos h, List.mem_cons, List.mem_flatMap]
    constructor
    · rintro (rfl | ⟨k, hk, hx⟩)
      · exact .here h
      · obtain ⟨h1, h2, h3⟩ := (listOf_mem g h).1 hk
        have := (g.rank k h1).2 h2 (fun h => h)
        rw [h3] at this
        have hu := (ih k x h1 (by omega)).1 hx
        refine hu.trans (.step h1 h2 ?_)
        rw [h3]; exact .here h
    · intro hu
      rcases hu.down with rfl | ⟨k, h1, h2, h3, h4⟩
      · left; rfl
      · right
        have := (g.rank k h1).2 h2 (fun h => h)
        rw [h3] at this
        exact ⟨k, (listOf_mem g h).2 ⟨h1, h2, h3⟩, (ih k x h1 (by omega)).2 h4⟩
end
end Go.Proofs.YtojgmfhkiboeoaaDoor
namespace Go.Proofs.YtojgmfhkiboeoaaDoor
theorem toNat_inj {a b : Int} (ha : 0 ≤ a) (hb : 0 ≤ b) (h : a.toNat = b.toNat) : a = b := by omega
section
variable {d d' : Dc} {free : Int → Prop} {R : Nat} {r : Int → Nat}
theorem Und.congr (hi : ∀ m, isM d' m false = true ↔ isM d m false = true) (hu : ∀ m, isM d m false = true → (nd d' m).up = (nd d m).up) {n z : Int} : Und d' n z ↔ Und d n z := by
  constructor
  · intro h
    induction h with
    | here h => exact .here ((hi _).1 h)
    | step a b _ ih => have a' := (hi _).1 a; rw [hu _ a'] at ih; exact .step a' b ih
  · intro h
    induction h with
    | here h => exact .here ((hi _).2 h)
    | step a b _ ih => refine .step ((hi _).2 a) b ?_; rw [hu _ a]; exact ih
theorem setList_rest (x : Nd) (sh : Bool) (l : List Int) : (setList x sh l).live = x.live ∧ (setList x sh l).tag = x.tag ∧ (setList x sh l).text = x.text ∧ (setList x sh l).attrs = x.attrs ∧ (setList x sh l).up = x.up ∧ (setList x sh l).hasS = x.hasS ∧ (setList x sh l).inS = x.inS := by
  cases sh <;> exact ⟨rfl, rfl, rfl, rfl, rfl, rfl, rfl⟩
end
end Go.Proofs.YtojgmfhkiboeoaaDoor
namespace Go.Proofs.YtojgmfhkiboeoaaDoor
open Op (bytesLess)
end Go.Proofs.YtojgmfhkiboeoaaDoor
namespace Go.Proofs.YtojgmfhkiboeoaaDoor
structure PutOk (d : Dc) (k t : Int) (sh : Bool) : Prop where
  tree : ∃ r, G0 (· = k) 16 r d
  is : isM d k false = true
  ne : k ≠ 0
  up : (nd d k).up = t
  ins : (nd d k).inS = sh
  to : isM d t true = true
  host : sh = true → (nd d t).hasS = true
  und : ¬ Und d k t
end Go.Proofs.YtojgmfhkiboeoaaDoor
namespace Go.Proofs.YtojgmfhkiboeoaaDoor
def preF (kids : Int → List Int) : Nat → Int → List Int
  | 0, _ => []
  | f + 1, n => n :: (kids n).flatMap (preF kids f)
structure Falls (kids : Int → List Int) (μ : Int → Nat) (N : Nat) : Prop where
  down : ∀ n k, k ∈ kids n → μ n < μ k
  top : ∀ n, μ n ≤ N
inductive Reach (kids : Int → List Int) (n : Int) : Int → Prop
  | here : Reach kids n n
  | step {x y : Int} : Reach kids n x → y ∈ kids x → Reach kids n y
section
variable {kids : Int → List Int} {μ : Int → Nat} {N : Nat}
theorem Reach.trans {a b c : Int} (h : Reach kids b c) (k : Reach kids a b) : Reach kids a c := by
  induction h with
  | here => exact k
  | step _ h ih => exact .step ih h
theorem Reach.first {a c : Int} (h : Reach kids a c) : c = a ∨ ∃ b ∈ kids a, Reach kids b c := by
  induction h with
  | here => exact .inl rfl
  | @step x y h hy ih =>
    right
    rcases ih with rfl | ⟨b, hb, h2⟩
    · exact ⟨y, hy, .here⟩
    · exact ⟨b, hb, .step h2 hy⟩
theorem Reach.le (F : Falls kids μ N) {a c : Int} (h : Reach kids a c) : μ a ≤ μ c := by
  induction h with
  | here => exact Nat.le_refl _
  | step _ h ih => exact Nat.le_trans ih (Nat.le_of_lt (F.down _ _ h))
theorem mem_pre (F : Falls kids μ N) : ∀ f n x, N < μ n + f → (x ∈ preF kids f n ↔ Reach kids n x) := by
  intro f
  induction f with
  | zero => intro n x h; have := F.top n; omega
  | succ f ih =>
    intro n x h
    rw [preF, List.mem_cons, List.mem_flatMap]
    constructor
    · rintro (rfl | ⟨k, hk, hx⟩)
      · exact .here
      · have := F.down n k hk
        exact ((ih k x (by omega)).1 hx).trans (.step .here hk)
    · intro hr
      rcases hr.first with rfl | ⟨k, hk, hx⟩
      · left; rfl
      · right
        have := F.down n k hk
        exact ⟨k, hk, (ih k x (by omega)).2 hx⟩
structure Alone (kids : Int → List Int) (par : Int → Int) : Prop where
  par : ∀ n k, k ∈ kids n → par k = n
  once : ∀ n, (kids n).Nodup
theorem reach_comp {par : Int → Int} (A : Alone kids par) {a b x : Int} (ha : Reach kids a x) (hb : Reach kids b x) : Reach kids a b ∨ Reach kids b a := by
  induction ha with
  | here => exact .inr hb
  | @step p y h hy ih =>
    cases hb with
    | here => exact .inl (.step h hy)
    | @step q _ h2 hy2 =>
      obtain rfl : p = q := (A.par _ _ hy).symm.trans (A.par _ _ hy2)
      exact ih h2
theorem pre_nodup {par : Int → Int} (F : Falls kids μ N) (A : Alone kids par) : ∀ f n, N < μ n + f → (preF kids f n).Nodup := by
  intro f
  induction f with
  | zero => intro n h; have := F.top n; omega
  | succ f ih =>
    intro n h
    rw [preF]
    have hm : ∀ k ∈ kids n, ∀ x, x ∈ preF kids f k ↔ Reach kids k x := fun k hk x => mem_pre F f k x (by have := F.down n k hk; omega)
    refine List.nodup_cons.2 ⟨fun hx => ?_, ?_⟩
    · obtain ⟨k, hk, hx⟩ := List.mem_flatMap.1 hx
      have h1 := ((hm k hk n).1 hx).le F
      have h2 := F.down n k hk
      omega
    · have : ∀ L : List Int, L.Nodup → (∀ k ∈ L, k ∈ kids n) → (L.flatMap (preF kids f)).Nodup := by
        intro L
        induction L with
        | nil => intro _ _; simp
        | cons a L ihL =>
          intro hn hL
          obtain ⟨hn1, hn2⟩ := List.nodup_cons.1 hn
          have ha := hL a (by simp)
          rw [List.flatMap_cons]
          refine List.nodup_append.2 ⟨ih a (by have := F.down n a ha; omega), ihL hn2 (fun k hk => hL k (by simp [hk])), ?_⟩
          intro x hx y hy e
          subst e
          obtain ⟨b, hb, hxb⟩ := List.mem_flatMap.1 hy
          have hb' := hL b (by simp [hb])
          have ra := (hm a ha x).1 hx
          have rb := (hm b hb' x).1 hxb
          have nab : a ≠ b := by rintro rfl; exact hn1 hb
          have key : ∀ a b, a ∈ kids n → b ∈ kids n → a ≠ b → ¬ Reach kids a b := by
            intro a b ha hb hne hr
            cases hr with
            | here => exact hne rfl
            | @step p _ h2 hy2 =>
              obtain rfl : p = n := (A.par _ _ hy2).symm.trans (A.par _ _ hb)
              have h3 := h2.le F
              have h4 := F.down _ _ ha
              omega
          rcases reach_comp A ra rb with h | h
          · exact key a b ha hb' nab h
          · exact key b a hb' ha (fun e => nab e.symm) h
      exact this _ (A.once n) (fun k h => h)
end
end Go.Proofs.YtojgmfhkiboeoaaDoor
namespace Go.Proofs.YtojgmfhkiboeoaaDoor
section
variable {d : Dc} {r : Int → Nat}
end
end Go.Proofs.YtojgmfhkiboeoaaDoor
namespace Go.Proofs.YtojgmfhkiboeoaaDoor
theorem Falls.tight {kids : Int → List Int} {μ : Int → Nat} {N : Nat} (F : Falls kids μ N) (L : Nat) (hin : ∀ n k, k ∈ kids n → 0 ≤ n ∧ n < L) : ∃ μ', Falls kids μ' L := by
  refine ⟨fun n => ((List.range L).filter (fun x : Nat => decide (μ (x : Int) < μ n))).length, fun n k hk => ?_, fun n => ?_⟩
  · have h1 := F.down n k hk
    have h2 := hin n k hk
    have hsub : ∀ l : List Nat, (l.filter (fun x : Nat => decide (μ (x : Int) < μ n))).length ≤ (l.filter (fun x : Nat => decide (μ (x : Int) < μ k))).length := by
      intro l
      induction l with
      | nil => simp
      | cons a l ih =>
        simp only [List.filter_cons, decide_eq_true_eq]
        split
        · rw [if_pos (by omega)]; simp; exact ih
        · split
          · simp; omega
          · exact ih
    obtain ⟨l1, l2, e⟩ := List.append_of_mem (List.mem_range.2 (show n.toNat < L by omega))
    rw [e]
    simp only [List.filter_append, List.filter_cons, List.length_append, decide_eq_true_eq]
    rw [if_neg (by rw [show ((n.toNat : Nat) : Int) = n by omega]; omega), if_pos (by rw [show ((n.toNat : Nat) : Int) = n by omega]; exact h1)]
    have a1 := hsub l1
    have a2 := hsub l2
    simp only [List.length_cons]
    omega
  · exact Nat.le_trans (List.length_filter_le _ _) (by simp)
def nameT : Txt := [110, 97, 109, 101]
def said (d : Dc) (n : Int) (s : Txt) : Txt := (attrM d n s).getD []
def slotOk (d : Dc) (host : Int) (want : Txt) (k : Int) : Bool := decide ((nd d k).tag = slotT) && decide (scopeM d k = host) && decide (said d k nameT = want)
def slotR (d : Dc) (n : Int) : Int :=
  if !isM d n false || (nd d n).inS || decide ((nd d n).up < 0) then -1
  else if !(nd d (nd d n).up).hasS then -1
  else (((nd d (nd d n).up).shadow.flatMap (allM d)).find? (slotOk d (nd d n).up (said d n slotT))).getD (-1)
def isSlot (d : Dc) (s : Int) : Bool := isM d s true && decide ((nd d s).tag = slotT)
def givenR (d : Dc) (s : Int) : List Int :=
  if isSlot d s then (nd d (scopeM d s)).kids.filter (fun k => decide (slotR d k = s)) else []
def kidsR (d : Dc) (n : Int) : List Int :=
  if !isM d n false then [] else if (nd d n).hasS then (nd d n).shadow else if (givenR d n).isEmpty then (nd d n).kids else givenR d n
def upR (d : Dc) (n : Int) : Int := (((List.range d.length).find? (fun k : Nat => (kidsR d (k : Int)).contains n)).map (fun k => (k : Int))).getD (-1)
def shownR (d : Dc) : List Int := preF (kidsR d) 100 0
section
variable {d : Dc} {r : Int → Nat}
theorem slot_spec (g : G0 NoFree 16 r d) {n s : Int} (h : slotR d n = s) (hs : 0 ≤ s) : isM d n false = true ∧ n ≠ 0 ∧ (nd d n).inS = false ∧ (nd d (nd d n).up).hasS = true ∧ isSlot d s = true ∧ scopeM d s = (nd d n).up ∧ (nd d n).up ≠ 0 ∧ ∃ c ∈ (nd d (nd d n).up).shadow, Und d c s := by
  unfold slotR at h
  split at h
  · omega
  · rename_i c1
    simp at c1
    split at h
    · omega
    · rename_i c2
      simp at c2
      have hn0 : n ≠ 0 := by
        rintro rfl
        have := g.root.2.2.1
        omega
      have hup := g.upIs c1.1.1 hn0 (fun h => h)
      cases hf : ((nd d (nd d n).up).shadow.flatMap (allM d)).find? (slotOk d (nd d n).up (said d n slotT)) with
      | none => rw [hf] at h; simp at h; omega
      | some k =>
        rw [hf] at h
        simp at h
        subst h
        have h1 := List.find?_some hf
        have h2 := List.mem_of_find?_eq_some hf
        unfold slotOk at h1
        simp at h1
        obtain ⟨c, hc, hk⟩ := List.mem_flatMap.1 h2
        have hci := (g.kid _ true c hup hc).1
        have hu := (mem_all g 100 c k hci (by omega)).1 hk
        refine ⟨c1.1.1, hn0, c1.1.2, c2, ?_, h1.1.2, ?_, c, hc, hu⟩
        · unfold isSlot
          simp only [Bool.and_eq_true, decide_eq_true_eq]
          exact ⟨isM_tag.2 ⟨hu.is, by rw [h1.1.1]; decide⟩, h1.1.1⟩
        · intro e
          have := g.root.2.2.2.1
          rw [← e, c2] at this; simp at this
end
def upP (d : Dc) (n : Int) : Int :=
  if !isM d n false || decide ((nd d n).up < 0) then -1
  else if (nd d n).inS then (nd d n).up
  else if (nd d (nd d n).up).hasS then slotR d n
  else if decide ((nd d (nd d n).up).tag = slotT) && !(givenR d (nd d n).up).isEmpty then -1
  else (nd d n).up
section
variable {d : Dc} {r : Int → Nat}
theorem mem_given {s k : Int} : k ∈ givenR d s ↔ isSlot d s = true ∧ k ∈ (nd d (scopeM d s)).kids ∧ slotR d k = s := by
  unfold givenR
  split
  · rename_i h; simp [h]
  · rename_i h; simp [h]
theorem isSlot_is {s : Int} (h : isSlot d s = true) : isM d s false = true ∧ (nd d s).tag = slotT := by
  unfold isSlot at h; simp only [Bool.and_eq_true, decide_eq_true_eq] at h
  exact ⟨isM_el h.1, h.2⟩
theorem mem_kidsR (g : G0 NoFree 16 r d) {n k : Int} : k ∈ kidsR d n ↔ isM d n false = true ∧ upP d k = n := by
  constructor
  · intro h
    unfold kidsR at h
    split at h
    · simp at h
    · rename_i hn
      have hn : isM d n false = true := by simpa using hn
      have hn0 := (isM_nd.1 hn).1
      refine ⟨hn, ?_⟩
      split at h
      · rename_i hs
        obtain ⟨a, b, c, e, -⟩ := g.kid n true k hn h
        unfold upP
        rw [if_neg (by simp [a, b]; omega), if_pos c, b]
      · rename_i hs
        split at h
        · rename_i hg
          obtain ⟨a, b, c, e, -⟩ := g.kid n false k hn h
          unfold upP
          rw [if_neg (by simp [a, b]; omega), if_neg (by simp [c]), b, if_neg hs, if_neg (by simp [hg])]
        · obtain ⟨a, b, c⟩ := mem_given.1 h
          obtain ⟨s1, s2, s3, s4, s5, s6, s7, -⟩ := slot_spec g c hn0
          have hup := g.upIs s1 s2 (fun h => h)
          have := (isM_nd.1 hup).1
          unfold upP
          rw [if_neg (by simp [s1]; omega), if_neg (by simp [s3]), if_pos s4, c]
  · rintro ⟨hn, h⟩
    have hn0 := (isM_nd.1 hn).1
    unfold upP at h
    split at h
    · omega
    · rename_i c1
      simp at c1
      have hk0 : k ≠ 0 := by rintro rfl; have := g.root.2.2.1; omega
      obtain ⟨u1, u2⟩ := g.up k c1.1 hk0 (fun h => h)
      unfold kidsR
      rw [if_neg (by simp [hn])]
      split at h
      · rename_i c2
        rw [h, c2] at u2
        unfold listOf listM at u2
        rw [if_pos rfl] at u2
        rw [if_pos ?_]
        · exact u2
        · cases hs : (nd d n).hasS with
          | true => rfl
          | false => rw [(g.ok n).hs hs] at u2; simp at u2
      · rename_i c2
        have c2' : (nd d k).inS = false := by simpa using c2
        rw [c2'] at u2
        unfold listOf listM at u2
        simp only [Bool.false_eq_true, if_false] at u2
        split at h
        · rename_i c3
          obtain ⟨s1, s2, s3, s4, s5, s6, s7, -⟩ := slot_spec g h hn0
          have hg : k ∈ givenR d n := mem_given.2 ⟨s5, by rw [s6]; exact u2, h⟩
          rw [if_neg (by rw [(g.ok n).slot (isSlot_is s5).2]; simp), if_neg (by intro e; rw [List.isEmpty_iff] at e; rw [e] at hg; simp at hg)]
          exact hg
        · rename_i c3
          split at h
          · omega
          · rename_i c4
            rw [h] at c3 c4 u2
            rw [if_neg c3, if_pos ?_]
            · exact u2
            · simp only [Bool.and_eq_true, decide_eq_true_eq, Bool.not_eq_true', not_and, Bool.not_eq_false] at c4
              cases hs : isSlot d n with
              | false => unfold givenR; simp [hs]
              | true => exact c4 (isSlot_is hs).2
theorem kidsR_is (g : G0 NoFree 16 r d) {n k : Int} (h : k ∈ kidsR d n) : isM d n false = true ∧ isM d k false = true ∧ k ≠ 0 := by
  obtain ⟨a, b⟩ := (mem_kidsR g).1 h
  refine ⟨a, ?_⟩
  have hn0 := (isM_nd.1 a).1
  unfold upP at b
  split at b
  · omega
  · rename_i c1
    simp at c1
    exact ⟨c1.1, by rintro rfl; have := g.root.2.2.1; omega⟩
theorem upP_ge (g : G0 NoFree 16 r d) (n : Int) : upP d n = -1 ∨ isM d (upP d n) false = true := by
  unfold upP
  split
  · exact .inl rfl
  · rename_i c1
    simp at c1
    have hk0 : n ≠ 0 := by rintro rfl; have := g.root.2.2.1; omega
    have hup := g.upIs c1.1 hk0 (fun h => h)
    split
    · exact .inr hup
    · split
      · by_cases h : 0 ≤ slotR d n
        · obtain ⟨-, -, -, -, s5, -⟩ := slot_spec g rfl h
          exact .inr (isSlot_is s5).1
        · left
          unfold slotR at h ⊢
          split
          · rfl
          · rename_i c3
            rw [if_neg c3] at h
            split
            · rfl
            · rename_i c4
              rw [if_neg c4] at h
              cases hf : ((nd d (nd d n).up).shadow.flatMap (allM d)).find? (slotOk d (nd d n).up (said d n slotT)) with
              | none => rfl
              | some k =>
                exfalso
                rw [hf] at h
                obtain ⟨c, hc, hk⟩ := List.mem_flatMap.1 (List.mem_of_find?_eq_some hf)
                have hci := (g.kid _ true c hup hc).1
                have := (isM_nd.1 ((mem_all g 100 c k hci (by omega)).1 hk).is).1
                simp at h; omega
      · split
        · exact .inl rfl
        · exact .inr hup
theorem upR_eq (g : G0 NoFree 16 r d) (n : Int) : upR d n = upP d n := by
  unfold upR
  rcases upP_ge g n with h | h
  · rw [h]
    have : (List.range d.length).find? (fun k : Nat => (kidsR d (k : Int)).contains n) = none := by
      rw [List.find?_eq_none]
      intro k _ hc
      have := ((mem_kidsR g).1 (List.contains_iff_mem.1 hc)).2
      omega
    rw [this]; rfl
  · have hl := isM_lt h
    cases hf : (List.range d.length).find? (fun k : Nat => (kidsR d (k : Int)).contains n) with
    | none =>
      exfalso
      rw [List.find?_eq_none] at hf
      refine hf (upP d n).toNat (List.mem_range.2 hl.1) ?_
      rw [hl.2]
      exact List.contains_iff_mem.2 ((mem_kidsR g).2 ⟨h, rfl⟩)
    | some k =>
      have h1 := List.find?_some hf
      have := ((mem_kidsR g).1 (List.contains_iff_mem.1 h1)).2
      simp [this]
theorem kidsR_nodup (g : G0 NoFree 16 r d) (n : Int) : (kidsR d n).Nodup := by
  unfold kidsR
  split
  · simp
  · split
    · exact (g.ok n).once true
    · split
      · exact (g.ok n).once false
      · unfold givenR
        split
        · exact ((g.ok _).once false).filter _
        · simp
theorem kidsR_alone (g : G0 NoFree 16 r d) : Alone (kidsR d) (upP d) := ⟨fun _ _ h => ((mem_kidsR g).1 h).2, kidsR_nodup g⟩
def digit2 (x : Nd) : Nat := if x.inS then 1 else 2
def codeF (d : Dc) : Nat → Int → Nat
  | 0, _ => 0
  | f + 1, n => 3 * codeF d f (nd d n).up + digit2 (nd d n)
theorem codeF_lt (d : Dc) : ∀ f n, codeF d f n + 1 ≤ 3 ^ f := by
  intro f
  induction f with
  | zero => intro n; simp [codeF]
  | succ f ih =>
    intro n
    have := ih (nd d n).up
    have h2 : digit2 (nd d n) ≤ 2 := by unfold digit2; split <;> omega
    rw [codeF, Nat.pow_succ]; omega
def placeV (d : Dc) (r : Int → Nat) (n : Int) : Nat := codeF d (r n) n * 3 ^ (17 - r n)
theorem place_up (g : G0 NoFree 16 r d) {n : Int} (h : isM d n false = true) (h0 : n ≠ 0) : codeF d (r n) n = 3 * codeF d (r (nd d n).up) (nd d n).up + digit2 (nd d n) ∧ 3 ^ (17 - r (nd d n).up) = 3 * 3 ^ (17 - r n) := by
  have h1 := g.rank n h
  have h2 := h1.2 h0 (fun h => h)
  refine ⟨by rw [h2, codeF], ?_⟩
  rw [show 17 - r (nd d n).up = (17 - r n) + 1 by omega, Nat.pow_succ, Nat.mul_comm]
theorem place_und (g : G0 NoFree 16 r d) {a b : Int} (h : Und d a b) : (codeF d (r b) b + 1) * 3 ^ (17 - r b) ≤ (codeF d (r a) a + 1) * 3 ^ (17 - r a) := by
  induction h with
  | here _ => exact Nat.le_refl _
  | @step x h1 h2 h3 ih =>
    refine Nat.le_trans ?_ ih
    obtain ⟨a1, a2⟩ := place_up g h1 h2
    have hd : digit2 (nd d x) ≤ 2 := by unfold digit2; split <;> omega
    rw [a1, a2, ← Nat.mul_assoc]
    exact Nat.mul_le_mul_right _ (by omega)
theorem place_kid (g : G0 NoFree 16 r d) {n : Int} (h : isM d n false = true) (h0 : n ≠ 0) : placeV d r (nd d n).up < placeV d r n := by
  obtain ⟨a1, a2⟩ := place_up g h h0
  unfold placeV
  rw [a1, a2, ← Nat.mul_assoc]
  refine Nat.mul_lt_mul_of_pos_right ?_ (Nat.pow_pos (by omega))
  have : 1 ≤ digit2 (nd d n) := by unfold digit2; split <;> omega
  omega
theorem place_le (g : G0 NoFree 16 r d) {n : Int} (h : isM d n false = true) : placeV d r n ≤ 3 ^ 17 := by
  have h1 := (g.rank n h).1
  have h2 := codeF_lt d (r n) n
  have : 3 ^ (r n) * 3 ^ (17 - r n) = 3 ^ 17 := by rw [← Nat.pow_add]; congr 1; omega
  unfold placeV
  rw [← this]
  exact Nat.mul_le_mul_right _ (by omega)
theorem kidsR_falls' (g : G0 NoFree 16 r d) : Falls (kidsR d) (fun n => if isM d n false then placeV d r n else 0) (3 ^ 17) := by
  refine ⟨fun n k hk => ?_, fun n => ?_⟩
  · obtain ⟨a, b, c⟩ := kidsR_is g hk
    rw [if_pos a, if_pos b]
    have hu := ((mem_kidsR g).1 hk).2
    have hn0 := (isM_nd.1 a).1
    have hpk := place_kid g b c
    unfold upP at hu
    split at hu
    · omega
    · split at hu
      · rw [← hu]; exact hpk
      · rename_i c2
        have c2 : (nd d k).inS = false := by simpa using c2
        split at hu
        · obtain ⟨-, -, -, -, s5, s6, -, cc, s8, s9⟩ := slot_spec g hu hn0
          have hup := g.upIs b c (fun h => h)
          obtain ⟨k1, k2, k3, k4, -⟩ := g.kid _ true cc hup s8
          have e1 := place_und g s9
          obtain ⟨p1, p2⟩ := place_up g k1 k4
          obtain ⟨q1, q2⟩ := place_up g b c
          rw [k2] at p1 p2
          have d1 : digit2 (nd d cc) = 1 := by unfold digit2; rw [k3]; rfl
          have d2 : digit2 (nd d k) = 2 := by unfold digit2; rw [c2]; rfl
          unfold placeV
          have hpow : 3 ^ (17 - r cc) = 3 ^ (17 - r k) := by
            have := p2.symm.trans q2
            exact Nat.eq_of_mul_eq_mul_left (by omega) this
          rw [p1, d1, hpow] at e1
          rw [q1, d2]
          refine Nat.lt_of_lt_of_le ?_ e1
          exact Nat.mul_lt_mul_of_pos_right (by omega) (Nat.pow_pos (by omega))
        · split at hu
          · omega
          · rw [← hu]; exact hpk
  · split
    · rename_i h; exact place_le g h
    · exact Nat.zero_le _
theorem kidsR_falls (g : G0 NoFree 16 r d) : ∃ μ, Falls (kidsR d) μ d.length :=
  (kidsR_falls' g).tight d.length (fun n k hk => by have := isM_lt (kidsR_is g hk).1; omega)
end
end Go.Proofs.YtojgmfhkiboeoaaDoor
namespace Go.Proofs.YtojgmfhkiboeoaaDoor
def NoS (d : Dc) : Prop := ∀ x ∈ d, x.hasS = false
theorem NoS.ofNd {d : Dc} (h : NoS d) (n : Int) : (nd d n).hasS = false := by
  unfold Proofs.YtojgmfhkiboeoaaDoor.nd
  rcases Nat.lt_or_ge n.toNat d.length with e | e
  · rw [List.getElem?_eq_getElem e]; exact h _ (List.getElem_mem e)
  · rw [List.getElem?_eq_none e]; rfl
theorem NoS.with {d : Dc} (h : NoS d) (k : Nat) {x : Nd} (hx : x.hasS = false) : NoS (withM d k x) := by
  unfold withM
  split
  · intro y hy
    rcases List.mem_append.1 hy with hy | hy
    · exact h y hy
    · simp at hy; subst hy; exact hx
  · intro y hy
    rcases List.mem_or_eq_of_mem_set hy with hy | rfl
    · exact h y hy
    · exact hx
theorem NoS.put {d : Dc} (h : NoS d) (k t before : Int) (sh : Bool) : NoS (putM d k t before sh).2 := by
  unfold putM
  split
  · intro x hx; simp at hx
  · split
    · intro x hx; simp at hx
    · split
      · intro x hx; simp at hx
      · refine NoS.with h _ ?_
        rw [(setList_rest _ _ _).2.2.2.2.2.1]; exact h.ofNd t
theorem NoS.take {d : Dc} (h : NoS d) (k : Int) : NoS (takeM d k) := NoS.with h _ (h.ofNd _)
theorem NoS.blanks {d : Dc} (l : List Int) : NoS d → NoS (blankAll d l) := by
  induction l generalizing d with
  | nil => intro h; exact h
  | cons a l ih => intro h; exact ih (NoS.with h _ rfl)
theorem NoS.change {d : Dc} (h : NoS d) {x : Chg} (hx : x.kind ≠ 8) : NoS (changeM d x).2.2 := by
  have e0 : NoS [] := by intro x hx; simp at hx
  unfold changeM
  split
  · unfold moveM
    split
    · exact e0
    · split
      · exact e0
      · split
        · exact e0
        · exact NoS.put (d := withM (takeM d x.node) x.node.toNat { nd d x.node with up := x.dest, inS := false }) (NoS.with (d := takeM d x.node) (h.take x.node) x.node.toNat (x := { nd d x.node with up := x.dest, inS := false }) (h.ofNd x.node)) x.node x.dest x.before false
  · split
    · unfold removeM
      split
      · exact e0
      · exact NoS.blanks _ (h.take _)
    · split
      · unfold sayM
        split
        · exact e0
        · exact NoS.with h _ (h.ofNd _)
      · split
        · exact e0
        · split
          · unfold attrChM
            split
            · exact e0
            · split
              · exact e0
              · split
                · exact e0
                · exact NoS.with h _ (h.ofNd _)
          · split
            · unfold clearM
              split
              · exact e0
              · exact NoS.with h _ (h.ofNd _)
            · unfold insideM
              split
              · exact e0
              · split
                · exact e0
                · split
                  · exact e0
                  · unfold makeM
                    split
                    · exact e0
                    · exact NoS.put (NoS.with h _ (by unfold newNd; split <;> rfl)) _ _ _ _
theorem NoS.build {l : List Chg} (hl : ∀ x ∈ l, x.kind ≠ 8) : NoS (buildM l) := by
  have : ∀ (l : List Chg) (d : Dc), (∀ x ∈ l, x.kind ≠ 8) → NoS d → NoS (l.foldl buildStep d) := by
    intro l
    induction l with
    | nil => intro d _ h; exact h
    | cons x l ih =>
      intro d hl h
      refine ih _ (fun y hy => hl y (by simp [hy])) ?_
      unfold buildStep
      split
      · unfold applyM
        split
        · exact fun y hy => by simp at hy
        · split
          · exact fun y hy => by simp at hy
          · split
            · intro y hy
              exact NoS.change h (hl x (by simp)) y (List.mem_of_mem_take hy)
            · exact fun y hy => by simp at hy
      · exact h
  refine this l _ hl ?_
  intro y hy
  simp [rootD] at hy
  subst hy; rfl
theorem shown_once {d : Dc} (g : Good d) : (shownR d).Nodup ∧ ∀ n ∈ shownR d, isM d n false = true := by
  obtain ⟨r, g'⟩ := g.tree
  obtain ⟨μ, F⟩ := kidsR_falls g'
  have hl := g.len
  refine ⟨pre_nodup F (kidsR_alone g') 100 0 (by omega), fun n hn => ?_⟩
  have hr := (mem_pre F 100 0 n (by omega)).1 hn
  cases hr with
  | here => exact g'.is0
  | step _ h => exact (kidsR_is g' h).2.1
end Go.Proofs.YtojgmfhkiboeoaaDoor
namespace Go.Proofs.YtojgmfhkiboeoaaDoor
structure Clm where
  owner : Int
  kid : Int
  deriving DecidableEq
def ownerM (l : List Clm) (n : Int) : Int := ((l.find? (fun c => c.kid == n)).map (·.owner)).getD (-1)
def inM (d : Dc) (l : List Clm) (n : Int) : Int := if 0 ≤ ownerM l n then ownerM l n else upR d n
def chainF (up : Int → Int) : Nat → Int → List Int
  | 0, _ => []
  | f + 1, n => if n < 0 then [] else n :: chainF up f (up n)
structure Rises (up : Int → Int) (μ : Int → Nat) : Prop where
  up : ∀ n, 0 ≤ n → 0 ≤ up n → μ (up n) < μ n
inductive On (up : Int → Int) : Int → Int → Prop
  | here {n : Int} : 0 ≤ n → On up n n
  | step {n x : Int} : 0 ≤ n → On up (up n) x → On up n x
section
variable {up : Int → Int} {μ : Int → Nat}
theorem On.ge {n x : Int} (h : On up n x) : 0 ≤ n := by cases h <;> assumption
theorem On.le (R : Rises up μ) {n x : Int} (h : On up n x) : μ x ≤ μ n := by
  induction h with
  | here _ => exact Nat.le_refl _
  | @step n x h1 h2 ih => have := R.up n h1 h2.ge; omega
theorem mem_chain (R : Rises up μ) : ∀ f n x, μ n < f → (x ∈ chainF up f n ↔ On up n x) := by
  intro f
  induction f with
  | zero => intro n x h; omega
  | succ f ih =>
    intro n x h
    rw [chainF]
    split
    · rename_i hn
      constructor
      · intro h; simp at h
      · intro h; have := h.ge; omega
    · rename_i hn
      rw [List.mem_cons]
      by_cases hu : 0 ≤ up n
      · have := R.up n (by omega) hu
        rw [ih (up n) x (by omega)]
        constructor
        · rintro (rfl | h)
          · exact .here (by omega)
          · exact .step (by omega) h
        · intro h
          cases h with
          | here _ => exact .inl rfl
          | step _ h => exact .inr h
      · have e : chainF up f (up n) = [] := by cases f <;> simp [chainF]; omega
        rw [e]
        constructor
        · rintro (rfl | h)
          · exact .here (by omega)
          · simp at h
        · intro h
          cases h with
          | here _ => exact .inl rfl
          | step _ h => have := h.ge; omega
open Classical in
theorem Rises.owned (R : Rises up μ) {o k : Int} (ho : ¬ On up o k) : ∃ μ', Rises (fun n => if n = k then o else up n) μ' := by
  refine ⟨fun n => if On up n k then μ n + (μ o + 1) else μ n, ⟨fun n hn hu => ?_⟩⟩
  by_cases e : n = k
  · subst e
    rw [if_pos rfl] at hu ⊢
    rw [if_neg ho, if_pos (.here hn)]
    omega
  · rw [if_neg e] at hu ⊢
    have h1 := R.up n hn hu
    by_cases h2 : On up n k
    · have h3 : On up (up n) k := by
        cases h2 with
        | here _ => exact absurd rfl e
        | step _ h => exact h
      rw [if_pos h2, if_pos h3]; omega
    · rw [if_neg h2, if_neg (fun h => h2 (.step hn h))]; exact h1
end
theorem Rises.tight {up : Int → Int} {μ : Int → Nat} (R : Rises up μ) (L : Nat) (hin : ∀ n, 0 ≤ n → 0 ≤ up n → up n < L) : ∃ μ', Rises up μ' ∧ ∀ n, μ' n ≤ L := by
  refine ⟨fun n => ((List.range L).filter (fun x : Nat => decide (μ (x : Int) < μ n))).length, ⟨fun n hn hu => ?_⟩, fun n => ?_⟩
  · have h1 := R.up n hn hu
    have h2 := hin n hn hu
    have hsub : ∀ l : List Nat, (l.filter (fun x : Nat => decide (μ (x : Int) < μ (up n)))).length ≤ (l.filter (fun x : Nat => decide (μ (x : Int) < μ n))).length := by
      intro l
      induction l with
      | nil => simp
      | cons a l ih =>
        simp only [List.filter_cons, decide_eq_true_eq]
        split
        · rw [if_pos (by omega)]; simp; exact ih
        · split
          · simp; omega
          · exact ih
    obtain ⟨l1, l2, e⟩ := List.append_of_mem (List.mem_range.2 (show (up n).toNat < L by omega))
    rw [e]
    simp only [List.filter_append, List.filter_cons, List.length_append, decide_eq_true_eq]
    rw [if_neg (by rw [show (((up n).toNat : Nat) : Int) = up n by omega]; omega), if_pos (by rw [show (((up n).toNat : Nat) : Int) = up n by omega]; exact h1)]
    have a1 := hsub l1
    have a2 := hsub l2
    simp only [List.length_cons]
    omega
  · exact Nat.le_trans (List.length_filter_le _ _) (by simp)
def ownsT : Txt := [97, 114, 105, 97, 45, 111, 119, 110, 115]
def idT : Txt := [105, 100]
def findD (d : Dc) (n : Int) (id : Txt) : Int :=
  if id.isEmpty || !isM d n false then -1
  else ((allM d 0).find? (fun k => decide (said d k idT = id) && decide (scopeM d k = scopeM d n))).getD (-1)
def onB (d : Dc) (l : List Clm) (n k : Int) : Bool := (chainF (inM d l) 100 n).contains k
def claimStep (d : Dc) (n : Int) (l : List Clm) (id : Txt) : List Clm :=
  if findD d n id < 1 || !(shownR d).contains (findD d n id) || decide (0 ≤ ownerM l (findD d n id)) || onB d l n (findD d n id) then l else l ++ [⟨n, findD d n id⟩]
def claimsOf (d : Dc) (l : List Clm) (n : Int) : List Clm := (toks (said d n ownsT)).foldl (claimStep d n) l
structure ClmOk (d : Dc) (l : List Clm) : Prop where
  rises : ∃ μ, Rises (inM d l) μ
  once : (l.map (·.kid)).Nodup
  kid : ∀ c ∈ l, c.kid ∈ shownR d ∧ 1 ≤ c.kid
  owner : ∀ c ∈ l, c.owner ∈ shownR d
theorem owner_none {l : List Clm} {n : Int} (h : ∀ c ∈ l, 0 ≤ c.owner) : ownerM l n < 0 ↔ ∀ c ∈ l, c.kid ≠ n := by
  unfold ownerM
  cases hf : l.find? (fun c => c.kid == n) with
  | none =>
    rw [List.find?_eq_none] at hf
    simp at hf ⊢
    exact hf
  | some c =>
    have h1 := List.find?_some hf
    have h2 := List.mem_of_find?_eq_some hf
    have := h c h2
    simp at h1
    constructor
    · intro h; simp at h; omega
    · intro h; exact absurd h1 (h c h2)
theorem owner_snoc {l : List Clm} {o k n : Int} (hk : ownerM l k < 0) (hl : ∀ c ∈ l, 0 ≤ c.owner) : ownerM (l ++ [⟨o, k⟩]) n = if n = k then o else ownerM l n := by
  unfold ownerM
  rw [List.find?_append]
  by_cases e : n = k
  · subst e
    have : l.find? (fun c => c.kid == n) = none := by
      rw [List.find?_eq_none]; intro c hc; simp; exact (owner_none hl).1 hk c hc
    rw [this, if_pos rfl]
    simp
  · rw [if_neg e]
    have : ([⟨o, k⟩] : List Clm).find? (fun c => c.kid == n) = none := by
      simp; exact fun h => e h.symm
    rw [this]; simp
section
variable {d : Dc}
theorem shown_ge (g : Good d) {n : Int} (h : n ∈ shownR d) : 0 ≤ n := (isM_nd.1 ((shown_once g).2 n h)).1
theorem ClmOk.owner_ge {l : List Clm} (g : Good d) (h : ClmOk d l) : ∀ c ∈ l, 0 ≤ c.owner := fun c hc => shown_ge g (h.owner c hc)
theorem upR_lt (g : Good d) (n : Int) : upR d n < d.length := by
  obtain ⟨r, g'⟩ := g.tree
  rw [upR_eq g']
  rcases upP_ge g' n with h | h
  · omega
  · have := isM_lt h; omega
theorem inM_lt (g : Good d) {l : List Clm} (h : ClmOk d l) (n : Int) : inM d l n < d.length := by
  unfold inM
  split
  · rename_i ho
    unfold ownerM at ho ⊢
    cases hf : l.find? (fun c => c.kid == n) with
    | none => rw [hf] at ho; simp at ho
    | some c =>
      have := isM_lt ((shown_once g).2 _ (h.owner c (List.mem_of_find?_eq_some hf)))
      simp; omega
  · exact upR_lt g n
theorem ClmOk.tight (g : Good d) {l : List Clm} (h : ClmOk d l) : ∃ μ, Rises (inM d l) μ ∧ ∀ n, μ n < 100 := by
  obtain ⟨μ, R⟩ := h.rises
  obtain ⟨μ', R', hl⟩ := R.tight d.length (fun n _ _ => inM_lt g h n)
  have := g.len
  exact ⟨μ', R', fun n => by have := hl n; omega⟩
theorem onB_iff (g : Good d) {l : List Clm} (h : ClmOk d l) {n k : Int} : onB d l n k = true ↔ On (inM d l) n k := by
  obtain ⟨μ, R, hl⟩ := h.tight g
  unfold onB
  rw [List.contains_iff_mem]
  exact mem_chain R 100 n k (hl n)
theorem ClmOk.nil (g : Good d) : ClmOk d [] := by
  obtain ⟨r, g'⟩ := g.tree
  obtain ⟨μ, F⟩ := kidsR_falls g'
  refine ⟨⟨μ, ⟨fun n hn hu => ?_⟩⟩, by simp, by simp, by simp⟩
  have e : inM d [] n = upR d n := by unfold inM ownerM; simp
  rw [e] at hu ⊢
  rw [upR_eq g'] at hu ⊢
  rcases upP_ge g' n with h | h
  · omega
  · exact F.down _ _ ((mem_kidsR g').2 ⟨h, rfl⟩)
theorem ClmOk.step (g : Good d) {l : List Clm} (h : ClmOk d l) {n : Int} (hn : n ∈ shownR d) (id : Txt) : ClmOk d (claimStep d n l id) := by
  unfold claimStep
  split
  · exact h
  · rename_i c
    simp only [Bool.or_eq_true, decide_eq_true_eq, Bool.not_eq_true', not_or, Bool.not_eq_false] at c
    obtain ⟨⟨⟨c1, c2⟩, c3⟩, c4⟩ := c
    generalize findD d n id = k at *
    have hk : k ∈ shownR d := List.contains_iff_mem.1 c2
    have hn0 := shown_ge g hn
    obtain ⟨μ, R⟩ := h.rises
    have hno : ¬ On (inM d l) n k := fun e => c4 ((onB_iff g h).2 e)
    have hk0 : ownerM l k < 0 := by omega
    have hog := h.owner_ge g
    refine ⟨?_, ?_, ?_, ?_⟩
    · obtain ⟨μ', R'⟩ := R.owned hno
      refine ⟨μ', ⟨fun x hx hu => ?_⟩⟩
      have e : inM d (l ++ [⟨n, k⟩]) x = if x = k then n else inM d l x := by
        unfold inM
        rw [owner_snoc hk0 hog]
        split
        · rfl
        · rfl
      rw [e] at hu ⊢
      exact R'.up x hx hu
    · rw [List.map_append, List.nodup_append]
      refine ⟨h.once, by simp, ?_⟩
      intro a ha b hb e
      simp at hb
      obtain ⟨c, hc, rfl⟩ := List.mem_map.1 ha
      exact (owner_none hog).1 hk0 c hc (e.trans hb)
    · intro c hc
      rcases List.mem_append.1 hc with hc | hc
      · exact h.kid c hc
      · simp at hc; subst hc; exact ⟨hk, show 1 ≤ k by omega⟩
    · intro c hc
      rcases List.mem_append.1 hc with hc | hc
      · exact h.owner c hc
      · simp at hc; subst hc; exact hn
theorem ClmOk.of (g : Good d) {n : Int} (hn : n ∈ shownR d) : ∀ (ws : List Txt) (l : List Clm), ClmOk d l → ClmOk d (ws.foldl (claimStep d n) l) := by
  intro ws
  induction ws with
  | nil => intro l h; exact h
  | cons w ws ih => intro l h; exact ih _ (h.step g hn w)
theorem ClmOk.all (g : Good d) : ∀ (ns : List Int) (l : List Clm), (∀ n ∈ ns, n ∈ shownR d) → ClmOk d l → ClmOk d (ns.foldl (claimsOf d) l) := by
  intro ns
  induction ns with
  | nil => intro l _ h; exact h
  | cons n ns ih => intro l hn h; exact ih _ (fun m hm => hn m (by simp [hm])) (ClmOk.of g (hn n (by simp)) _ _ h)
end
end Go.Proofs.YtojgmfhkiboeoaaDoor
namespace Go.Proofs.YtojgmfhkiboeoaaDoor
abbrev Str := List UInt8
structure Kd where
  name : Str
  content : Bool := false
  leaf : Bool := false
  level : Bool := false
  checked : Bool := false
  named : Bool := false
  need : Int := 0
  deriving DecidableEq
end Go.Proofs.YtojgmfhkiboeoaaDoor
namespace Go.Proofs.YtojgmfhkiboeoaaDoor
section
variable {d : Dc}
end
end Go.Proofs.YtojgmfhkiboeoaaDoor
namespace Go.Proofs.YtojgmfhkiboeoaaDoor
structure St where
  had : Int → Bool
  asked : Int → Bool
def freeS (d : Dc) (h : Int → Bool) : Nat := (List.range d.length).countP (fun k : Nat => !h (k : Int))
structure Does (d : Dc) (s : St) (r : Txt × St) : Prop where
  had : ∀ x, s.had x = true → r.2.had x = true
  asked : ∀ x, s.asked x = true → r.2.asked x = true
  len : r.1.length + 61 * freeS d r.2.had ≤ 61 * freeS d s.had
  free : freeS d r.2.had ≤ freeS d s.had
theorem Does.none {d : Dc} (s : St) : Does d s ([], s) := ⟨fun _ h => h, fun _ h => h, by simp, Nat.le_refl _⟩
structure DoesS (d : Dc) (s : St) (r : Txt × St) : Prop where
  had : ∀ x, s.had x = true → r.2.had x = true
  asked : ∀ x, s.asked x = true → r.2.asked x = true
  len : r.1.length ≤ 60 ∨ r.1.length + 61 * freeS d r.2.had ≤ 61 * freeS d s.had
  free : freeS d r.2.had ≤ freeS d s.had
theorem Does.s {d : Dc} {s : St} {r : Txt × St} (h : Does d s r) : DoesS d s r := ⟨h.had, h.asked, .inr h.len, h.free⟩
theorem DoesS.short {d : Dc} (s : St) {t : Txt} (h : t.length ≤ 60) : DoesS d s (t, s) := ⟨fun _ h => h, fun _ h => h, .inl h, Nat.le_refl _⟩
theorem DoesS.then {d : Dc} {s : St} {r r' : Txt × St} (h : DoesS d s r) (k : DoesS d r.2 r') : DoesS d s r' := by
  refine ⟨fun x hx => k.had x (h.had x hx), fun x hx => k.asked x (h.asked x hx), ?_, Nat.le_trans k.free h.free⟩
  have := h.free
  rcases k.len with h1 | h1
  · exact .inl h1
  · right; omega
structure DoesL (d : Dc) (s : St) (r : List Txt × St) : Prop where
  had : ∀ x, s.had x = true → r.2.had x = true
  asked : ∀ x, s.asked x = true → r.2.asked x = true
  len : (r.1.map (fun t => t.length + 1)).sum + 61 * freeS d r.2.had ≤ 61 * freeS d s.had
  free : freeS d r.2.had ≤ freeS d s.had
structure Does1 (d : Dc) (s : St) (r : Txt × St) : Prop where
  had : ∀ x, s.had x = true → r.2.had x = true
  asked : ∀ x, s.asked x = true → r.2.asked x = true
  len : r.1.length + 1 + 61 * freeS d r.2.had ≤ 61 * freeS d s.had
  free : freeS d r.2.had + 1 ≤ freeS d s.had
end Go.Proofs.YtojgmfhkiboeoaaDoor
