/- The document's answer about documents: walks. -/
import Derived.Test.YtojgmfhkiboeoaaDoorProg
import Derived.WalkLawsBesides
import Derived.Test.YtojgmfhkiboeoaaDoorMem
import Derived.Test.YtojgmfhkiboeoaaDoorPlains
import Derived.WalkSpells
import Derived.Deep.QuietTactic
import Derived.BigQuiet
import Derived.RegionTactic
namespace Go.Proofs.YtojgmfhkiboeoaaDoor
open Go.RowKit
def rdAtt : World → List Value → Att → Prop := fun _ cs a => cs = [.string ⟨a.name.toArray⟩, .string ⟨a.value.toArray⟩]
theorem still_att : Still rdAtt := fun _ _ _ _ h => h
abbrev AttsAt (n : Nat) (w : World) (v : Value) (l : List Att) : Prop := RowAt 2 rdAtt (· < n) w v l
abbrev IntsB (n : Nat) (w : World) (v : Value) (l : List Int) : Prop := RowAt 1 rdInt (· < n) w v l
def rdNdB (B : Nat → Prop) : World → List Value → Nd → Prop := fun w cs x => ∃ av kv sv,
  cs = [.bool x.live, .string ⟨x.tag.toArray⟩, .string ⟨x.text.toArray⟩, av, .int .i64 x.up, kv, .bool x.hasS, sv, .bool x.inS] ∧ RowAt 2 rdAtt B w av x.attrs ∧ RowAt 1 rdInt B w kv x.kids ∧ RowAt 1 rdInt B w sv x.shadow
abbrev rdNd (n : Nat) : World → List Value → Nd → Prop := rdNdB (· < n)
def DocIn (B : Nat → Prop) (w : World) (v : Value) (d : Dc) : Prop := RowAt 9 (rdNdB B) B w v d
theorem rdNdB.agree {B : Nat → Prop} {w w' : World} {cs : List Value} {x : Nd} (h : rdNdB B w cs x) (ha : Agree B w w') : rdNdB B w' cs x := by
  obtain ⟨av, kv, sv, h1, h2, h3, h4⟩ := h
  exact ⟨av, kv, sv, h1, h2.agree ha (fun _ _ _ h => h), h3.agree ha (fun _ _ _ h => h), h4.agree ha (fun _ _ _ h => h)⟩
theorem rdNdB.mono {B C : Nat → Prop} {w : World} {cs : List Value} {x : Nd} (h : rdNdB B w cs x) (hc : ∀ b, B b → C b) : rdNdB C w cs x := by
  obtain ⟨av, kv, sv, h1, h2, h3, h4⟩ := h
  exact ⟨av, kv, sv, h1, h2.mono hc (fun _ _ _ h => h), h3.mono hc (fun _ _ _ h => h), h4.mono hc (fun _ _ _ h => h)⟩
theorem DocIn.agree {B : Nat → Prop} {w w' : World} {v : Value} {d : Dc} (h : DocIn B w v d) (ha : Agree B w w') : DocIn B w' v d := RowAt.agree h ha (fun _ _ _ hr => hr.agree ha)
theorem DocIn.mono {B C : Nat → Prop} {w : World} {v : Value} {d : Dc} (h : DocIn B w v d) (hc : ∀ b, B b → C b) : DocIn C w v d := RowAt.mono h hc (fun _ _ _ hr => hr.mono hc)
def DocAt (n : Nat) (w : World) (v : Value) (d : Dc) : Prop := RowAt 9 (rdNd n) (· < n) w v d
theorem rdNd.later {n m : Nat} {w w' : World} {cs : List Value} {x : Nd} (h : rdNd n w cs x) (hb : Below m w w') (hn : n ≤ m) : rdNd n w' cs x := by
  obtain ⟨av, kv, sv, h1, h2, h3, h4⟩ := h
  exact ⟨av, kv, sv, h1, h2.later still_att hb hn, h3.later still_int hb hn, h4.later still_int hb hn⟩
theorem rdNd.raise {n m : Nat} {w : World} {cs : List Value} {x : Nd} (h : rdNd n w cs x) (hn : n ≤ m) : rdNd m w cs x := by
  obtain ⟨av, kv, sv, h1, h2, h3, h4⟩ := h
  have hh : ∀ b : Nat, b < n → b < m := fun b h => Nat.lt_of_lt_of_le h hn
  exact ⟨av, kv, sv, h1, h2.mono hh (fun _ _ _ h => h), h3.mono hh (fun _ _ _ h => h), h4.mono hh (fun _ _ _ h => h)⟩
theorem DocAt.later {n m : Nat} {w w' : World} {v : Value} {d : Dc} (h : DocAt n w v d) (hb : Below m w w') (hn : n ≤ m) : DocAt n w' v d :=
  RowAt.agree h (Agree.mono (Agree.below hb) (fun _ hb => Nat.lt_of_lt_of_le hb hn)) (fun _ _ _ hr => hr.later hb hn)
theorem DocAt.raise {n m : Nat} {w : World} {v : Value} {d : Dc} (h : DocAt n w v d) (hn : n ≤ m) : DocAt m w v d :=
  RowAt.mono h (fun _ h => Nat.lt_of_lt_of_le h hn) (fun _ _ _ hr => hr.raise hn)
structure NdCells (n : Nat) (w : World) (b o : Nat) (x : Nd) (av kv sv : Value) : Prop where
  live : w.cell? ⟨b, o, none⟩ = some (.bool x.live)
  tag : w.cell? ⟨b, o + 1, none⟩ = some (.string ⟨x.tag.toArray⟩)
  text : w.cell? ⟨b, o + 2, none⟩ = some (.string ⟨x.text.toArray⟩)
  atts : w.cell? ⟨b, o + 3, none⟩ = some av
  up : w.cell? ⟨b, o + 4, none⟩ = some (.int .i64 x.up)
  kids : w.cell? ⟨b, o + 5, none⟩ = some kv
  hasS : w.cell? ⟨b, o + 6, none⟩ = some (.bool x.hasS)
  shadow : w.cell? ⟨b, o + 7, none⟩ = some sv
  inS : w.cell? ⟨b, o + 8, none⟩ = some (.bool x.inS)
  attsAt : AttsAt n w av x.attrs
  kidsAt : IntsB n w kv x.kids
  shadowAt : IntsB n w sv x.shadow
theorem ndCells_of {n : Nat} {w : World} {b o : Nat} {x : Nd} {cs : List Value} (h : Cells w b o cs) (hr : rdNd n w cs x) : ∃ av kv sv, NdCells n w b o x av kv sv := by
  obtain ⟨av, kv, sv, rfl, h2, h3, h4⟩ := hr
  exact ⟨av, kv, sv, by simpa using h 0 _ rfl, h 1 _ rfl, h 2 _ rfl, h 3 _ rfl, h 4 _ rfl, h 5 _ rfl, h 6 _ rfl, h 7 _ rfl, h 8 _ rfl, h2, h3, h4⟩
theorem DocAt.node {n : Nat} {w : World} {v : Value} {d : Dc} (h : DocAt n w v d) (i : Nat) (hi : i < d.length) :
    ∃ b off cap av kv sv, v = .slice (some ⟨b, off, none⟩) d.length cap ∧ d.length ≤ cap ∧ cap ≤ 9223372036854775807 ∧ b < n ∧ NdCells n w b (off + i * 9) d[i] av kv sv := by
  obtain ⟨a, cap0, e0, e1, e2⟩ := RowAt.form h
  obtain ⟨b, off, cap, cs, h1, h2, h3, h4, h5⟩ := RowAt.elem h i hi
  obtain ⟨av, kv, sv, hN⟩ := ndCells_of h4 h5
  rw [h1] at e0
  simp at e0
  obtain ⟨_, rfl⟩ := e0
  exact ⟨b, off, cap, av, kv, sv, h1, e1, e2, h2, hN⟩
theorem DocIn.node {B : Nat → Prop} {w : World} {v : Value} {d : Dc} (h : DocIn B w v d) (hBl : ∀ b, B b → b < w.heap.size) (i : Nat) (hi : i < d.length) :
    ∃ b off cap av kv sv, v = .slice (some ⟨b, off, none⟩) d.length cap ∧ d.length ≤ cap ∧ cap ≤ 9223372036854775807 ∧ b < w.heap.size ∧ NdCells w.heap.size w b (off + i * 9) d[i] av kv sv ∧ RowAt 2 rdAtt B w av d[i].attrs := by
  obtain ⟨a, cap0, e0, e1, e2⟩ := RowAt.form h
  obtain ⟨b, off, cap, cs, h1, h2, h3, h4, h5⟩ := RowAt.elem h i hi
  have h5' := h5
  obtain ⟨av, kv, sv, rfl, q2, q3, q4⟩ := h5'
  have g0 := h4
  obtain ⟨av', kv', sv', hN⟩ := ndCells_of h4 (h5.mono hBl)
  have e3 : av' = av := by
    have a1 := hN.atts
    have a2 := g0 3 av rfl
    rw [a2] at a1
    exact (Option.some.inj a1).symm
  rw [e3] at hN
  rw [h1] at e0
  simp at e0
  obtain ⟨_, rfl⟩ := e0
  exact ⟨b, off, cap, av, kv', sv', h1, e1, e2, hBl _ h2, hN, q2⟩
end Go.Proofs.YtojgmfhkiboeoaaDoor
namespace Go.Proofs.YtojgmfhkiboeoaaDoor
open Go.RowKit
end Go.Proofs.YtojgmfhkiboeoaaDoor
namespace Go.Proofs.YtojgmfhkiboeoaaDoor
open Go.RowKit
end Go.Proofs.YtojgmfhkiboeoaaDoor
namespace Go.Proofs.YtojgmfhkiboeoaaDoor
open Go.RowKit
end Go.Proofs.YtojgmfhkiboeoaaDoor
namespace Go.Proofs.YtojgmfhkiboeoaaDoor
open Go.RowKit
end Go.Proofs.YtojgmfhkiboeoaaDoor
