/- diff.move: walked. -/
import Derived.Test.YtklbmkaomojciaaDiffMid
set_option maxRecDepth 100000
set_option maxHeartbeats 1000000
namespace Go.Proofs.Ytklbmkaomojciaa
open Go.RowKit
theorem Mid.since {base : Nat} {box : Addr} {w w0 W : World} {S S2 : Int -> Sv} {t : Fl} {x : Int} {lab2 : Nat -> Int} (h : Mid base box w S t x W S2 lab2) (hb : Bel w0 w) : Mid base box w0 S t x W S2 lab2 :=
 ⟨h.tab, h.ext, h.boxed, h.apart, h.same, h.os.trans hb.os, h.tape.trans hb.tape, h.output.trans hb.output, Nat.le_trans hb.size h.size, fun b a1 a2 a3 => (h.block b (Nat.lt_of_lt_of_le a1 hb.size) a2 a3).trans (hb.block b a1), fun n hn b hb' => by
  rcases h.rows n hn b hb' with e | e
  · exact .inl (Nat.le_trans hb.size e)
  · exact .inr e, (Side.bel hb).trans h.side hb.size⟩
theorem qHk {t : Fl} {x n : Int} (hw : Wf t) (hh : ∀ n, Has t n -> (t.head n).node = n) (hn : Has (dropF t x) n) : ((dropF t x).head n).node = n := hh n (qZ3 hw hn)
theorem qVi {base : Nat} {box : Addr} {w W2 : World} {S S2 : Int -> Sv} {t : Fl} {x : Int} {lab2 : Nat -> Int} (M : Mid base box w S t x W2 S2 lab2) (hw : Wf t) (hh : ∀ n, Has t n -> (t.head n).node = n) {tw : Int} {i : Nat} (hx : Has t x) (hto : tw = -1 ∨ Has t tw) (hlp : ¬ Reach t.kids x tw) (hi : i <= (cutF t x tw).length) (hl : ∀ n, (t.kids n).length <= 1000000000) (hbase : base <= w.heap.size) {hd : Hd} (hhd : hd = t.head x) :
 ∃ sa sc, (cutF t x tw).length <= sc /\ sc <= 9223372036854775807 /\ ∀ W, Bel W2 W -> Calls Try.prog 31 #[.pointer (some box), .int .i64 tw] W (Rv (.pointer (some (qQe box (dropF t x) (fun n => (S2 n).v) tw))) W) /\ W.cell? (qQe box (dropF t x) (fun n => (S2 n).v) tw) = some (.slice sa (cutF t x tw).length sc) /\ W.frozen? (qQe box (dropF t x) (fun n => (S2 n).v) tw) = false /\
  Calls Try.prog 33 #[.slice sa (cutF t x tw).length sc, .int .i64 i, .slice (some ⟨W.heap.size, 0, none⟩) 1 1] (W.alloc (.cells #[.int .i64 hd.node, .int .i64 hd.role, .string ⟨hd.name.toArray⟩, .string ⟨hd.about.toArray⟩, .int .i64 hd.level, .int .i64 hd.checked, .bool hd.off, .slice (S x).a (S x).n (S x).c] 35)).drew fun e w' => ∃ a1 n1 c1, e = .returned (.slice a1 n1 c1) /\ w'.cell? (qQe box (dropF t x) (fun n => (S2 n).v) tw) = some (.slice sa (cutF t x tw).length sc) /\ w'.frozen? (qQe box (dropF t x) (fun n => (S2 n).v) tw) = false /\ Grew base box w S t (w'.setCell (qQe box (dropF t x) (fun n => (S2 n).v) tw) (.slice a1 n1 c1)) (qQ7 t x tw i) := by
 have hw0 := qJ7 hw x
 have hto0 : tw = -1 ∨ Has (dropF t x) tw := by
  rcases hto with e | e
  · exact .inl e
  · exact .inr ((qQr hw).2 ⟨e, hlp⟩)
 have hkt : (dropF t x).kids tw = cutF t x tw := qXs hw hlp
 obtain ⟨sa, sc, hS, s1, s2⟩ := qQa.form (M.tab tw hto0).1.read
 have hlen : (List.map (icOf (dropF t x) S2) ((dropF t x).kids tw)).length = (cutF t x tw).length := by rw [List.length_map, hkt]
 rw [hlen] at hS s1
 have hcl : (cutF t x tw).length <= 1000000000 := by
  refine Nat.le_trans ?_ (hl tw)
  unfold cutF
  split
  · exact (List.erase_sublist).length_le
  · exact Nat.le_refl _
 obtain ⟨μ, N, F⟩ := hw0.falls
 refine ⟨sa, sc, s1, s2, fun W hW => ?_⟩
 have M1 := M.bel hW
 have hc1 := M1.tab.rd.cell hw0 M1.boxed.cell hto0
 refine ⟨qZ2 hw0 F (Nat.lt_succ_self N) (fun n hn => qHk hw hh hn) tw W M1.tab.rd M1.boxed.cell hto0, by rw [<- hS]; exact hc1, M1.tab.open_ hw0 M1.boxed hto0, ?_⟩
 have hB2 : Bel W (W.alloc (.cells #[.int .i64 hd.node, .int .i64 hd.role, .string ⟨hd.name.toArray⟩, .string ⟨hd.about.toArray⟩, .int .i64 hd.level, .int .i64 hd.checked, .bool hd.off, .slice (S x).a (S x).n (S x).c] 35)).drew := ((Bel.refl W).alloc _).drew
 have M2 := M1.bel hB2
 have hc2 := M2.tab.rd.cell hw0 M2.boxed.cell hto0
 have hf2 := M2.tab.open_ hw0 M2.boxed hto0
 have hown := (M2.tab tw hto0).1
 rw [<- hS]
 have hq := (Blk.new' W _ rfl #[.int .i64 hd.node, .int .i64 hd.role, .string ⟨hd.name.toArray⟩, .string ⟨hd.about.toArray⟩, .int .i64 hd.level, .int .i64 hd.checked, .bool hd.off, .slice (S x).a (S x).n (S x).c] 35).drew
 refine (qK0 base (S2 tw).v (((dropF t x).kids tw).map (icOf (dropF t x) S2)) i W.heap.size ⟨hd, (S x).a, (S x).n, (S x).c⟩ _ hown (Nat.le_trans hbase M2.size) (by rw [hlen]; exact hi) (by rw [hlen]; exact hcl) hq (fun e => by
  have := (M1.tab tw hto0).1.lt _ e
  omega)).mono ?_
 rintro e w2 ⟨y, rfl, o2, g2, f2⟩
 obtain ⟨sv, rfl⟩ := qVf o2
 have hblk := qJy M2.tab hw0 M2.boxed hto0 g2
 have hsx := M.same x .here
 rw [hhd, <- hsx] at o2
 exact ⟨sv.a, sv.n, sv.c, rfl, (World.cell?_of_block hblk).trans hc2, (World.frozen?_of_block hblk).trans hf2, M2.moved hw hx hto hlp hi g2 o2 f2⟩
theorem sub_none {B : Nat -> Prop} {W : World} {S : Int -> Sv} {t : Fl} (hT : qJa B W (fun n => (S n).v) t) (hw : Wf t) (hh : ∀ n, Has t n -> (t.head n).node = n) {x tw : Int} (hx : Has t x) (hlp : ¬ Reach t.kids x tw) {hd : Hd} (hhd : hd = t.head x) {q r : Nat} {e e2 : TypeId} (hB : ∀ b, B b -> b < W.heap.size) (hq : Blk W q [.int .i64 hd.node, .int .i64 hd.role, .string ⟨hd.name.toArray⟩, .string ⟨hd.about.toArray⟩, .int .i64 hd.level, .int .i64 hd.checked, .bool hd.off, .slice (S x).a (S x).n (S x).c] e) (hr : Blk W r [.slice (some ⟨q, 0, none⟩) 1 1] e2) :
 Calls Try.prog 17 #[.pointer (some ⟨r, 0, none⟩), .int .i64 tw] W (Rv (.tuple #[.pointer none, .int .i64 0]) W) := by
 obtain ⟨μ, N, F⟩ := hw.falls
 have hws := qGg hw hx
 have hrow : qQa 8 (rdF t (fun n => (S n).v)) (fun b => b < W.heap.size) W (.slice (some ⟨q, 0, none⟩) 1 1) [x] := by
  refine .inr ⟨q, 0, 1, rfl, Nat.le_refl _, by omega, fun i hi => ⟨hq.lt, [.int .i64 hd.node, .int .i64 hd.role, .string ⟨hd.name.toArray⟩, .string ⟨hd.about.toArray⟩, .int .i64 hd.level, .int .i64 hd.checked, .bool hd.off, .slice (S x).a (S x).n (S x).c], rfl, fun j v hj => ?_, ?_⟩⟩
  · have : i = 0 := by simpa using hi
    subst this
    rw [show 0 + 0 * 8 + j = j by omega, hq.cell]
    exact hj
  · have : i = 0 := by simpa using hi
    subst this
    show _ = qQd (t.head x) _
    rw [hhd]
    rfl
 have hRd : qJa (fun b => b < W.heap.size) W (fun n => (S n).v) t := fun n hn => (hT n hn).mono hB (fun _ _ _ h => h)
 have hsub := sub_rd hRd hw hx hrow
 have hcell : qQe ⟨r, 0, none⟩ (subF t x) (fun n => if n = -1 then Value.slice (some ⟨q, 0, none⟩) 1 1 else (S n).v) (-1) = ⟨r, 0, none⟩ := by unfold qQe; rw [if_pos rfl]
 have := qQy (box := ⟨r, 0, none⟩) hws (qXd hw hx F) (fun n hn => hh n (hw.in_has hx (qWj hw hx hn))) tw (N + 1) (-1) W hsub (.inl rfl) (by omega) (by rw [hcell, hr.cell]; rfl)
 rw [qKt hws (qXd hw hx F) (Nat.lt_succ_self N) (fun hn => hlp (qWj hw hx hn)), hcell] at this
 exact this
theorem qX8 {base : Nat} {w : World} {S : Int -> Sv} {lab : Nat -> Int} {t : Fl} (hT : qQg base w S lab t) (hw : Wf t) (hh : ∀ n, Has t n -> (t.head n).node = n) {box : Addr} (hb : BoxOk w box S t) {x tw : Int} {i : Nat} {it : It} {kv : Value} {eb eo : Nat} (hE : EvC w eb eo ⟨3, x, tw, i, it⟩ kv)
 (hx : Has t x) (hto : tw = -1 ∨ Has t tw) (hlp : ¬ Reach t.kids x tw) (hi : i <= (cutF t x tw).length) (hl : ∀ n, (t.kids n).length <= 1000000000) (hbase : base <= w.heap.size) (heb : eb ≠ box.block) (hen : ∀ n, (n = -1 ∨ Has t n) -> (S n).v.ownBlock ≠ some eb) :
 Calls Try.prog 27 #[.pointer (some box), .pointer (some ⟨eb, eo, none⟩)] w fun e w' => e = .returned (.int .i64 0) /\ Grew base box w S t w' (qQ7 t x tw i) := by
 have hp := hw.par_has hx
 have hlt : (t.kids (t.par x)).idxOf x < (t.kids (t.par x)).length := List.idxOf_lt_length_of_mem hx
 have hel : eb < w.heap.size := World.block_lt_of_cell? _ _ hE.kind
 have cF := lH (qZt hT hw hh hb hx)
 have HH := lH hh
 have HLL := lH hl
 have hcc0 := hT.rd.cell hw hb.cell hp
 have hcc1 := hcc0
 obtain ⟨g, off, cap, q1, q2, q3, q4, hI⟩ := hT.rd.item hp _ hlt
 rw [List.getElem_idxOf hlt] at hI
 have hS : (S (t.par x)).v = Value.slice (some ⟨g, off, none⟩) (t.kids (t.par x)).length cap := q1
 rw [hS] at hcc0
 obtain ⟨hd, hhd⟩ : ∃ y, y = t.head x := ⟨_, rfl⟩
 rw [<- hhd] at hI
 have HHD := lH hhd
 have hdn : hd.node = x := by rw [hhd]; exact hh x hx
 have k0 := hI.node
 have k1 := hI.role
 have k2 := hI.name
 have k3 := hI.about
 have k4 := hI.level
 have k5 := hI.checked
 have k6 := hI.off
 have k7 : w.cell? ⟨g, off + (t.kids (t.par x)).idxOf x * 8 + 7, none⟩ = some (.slice (S x).a (S x).n (S x).c) := hI.kids
 have en : w.cell? ⟨eb, eo + 1, none⟩ = some (.int .i64 x) := hE.node
 have hltz : (((t.kids (t.par x)).idxOf x : Nat) : Int) < ((t.kids (t.par x)).length : Int) := by omega
 obtain ⟨w1, hw1⟩ : ∃ w1, w1 = w.alloc (.cells #[.int .i64 hd.node, .int .i64 hd.role, .string ⟨hd.name.toArray⟩, .string ⟨hd.about.toArray⟩, .int .i64 hd.level, .int .i64 hd.checked, .bool hd.off, .slice (S x).a (S x).n (S x).c] 35) := ⟨_, rfl⟩
 have HB1 : Hid (Bel w w1) := lH (by rw [hw1]; exact (Bel.refl w).alloc _)
 have HX1 : Hid (Blk w1 w.heap.size [.int .i64 hd.node, .int .i64 hd.role, .string ⟨hd.name.toArray⟩, .string ⟨hd.about.toArray⟩, .int .i64 hd.level, .int .i64 hd.checked, .bool hd.off, .slice (S x).a (S x).n (S x).c] 35) := lH (by rw [hw1]; exact Blk.new' w _ rfl #[.int .i64 hd.node, .int .i64 hd.role, .string ⟨hd.name.toArray⟩, .string ⟨hd.about.toArray⟩, .int .i64 hd.level, .int .i64 hd.checked, .bool hd.off, .slice (S x).a (S x).n (S x).c] 35)
 have cD : Hid (∀ W, Bel w W -> Blk W w.heap.size [.int .i64 hd.node, .int .i64 hd.role, .string ⟨hd.name.toArray⟩, .string ⟨hd.about.toArray⟩, .int .i64 hd.level, .int .i64 hd.checked, .bool hd.off, .slice (S x).a (S x).n (S x).c] 35 -> Calls Try.prog 28 #[.slice (some ⟨g, off, none⟩) (t.kids (t.par x)).length cap, .int .i64 ((t.kids (t.par x)).idxOf x : Nat), .int .i64 (((t.kids (t.par x)).idxOf x : Nat) + 1)] W fun e w' => ∃ a1 n1 c1, e = .returned (.slice a1 n1 c1) /\ w'.cell? (qQe box t (fun n => (S n).v) (t.par x)) = some (.slice (some ⟨g, off, none⟩) (t.kids (t.par x)).length cap) /\ w'.frozen? (qQe box t (fun n => (S n).v) (t.par x)) = false /\ ∃ S2 lab2, Mid base box w S t x (w'.setCell (qQe box t (fun n => (S n).v) (t.par x)) (.slice a1 n1 c1)) S2 lab2 /\ Blk (w'.setCell (qQe box t (fun n => (S n).v) (t.par x)) (.slice a1 n1 c1)) w.heap.size [.int .i64 hd.node, .int .i64 hd.role, .string ⟨hd.name.toArray⟩, .string ⟨hd.about.toArray⟩, .int .i64 hd.level, .int .i64 hd.checked, .bool hd.off, .slice (S x).a (S x).n (S x).c] 35 /\ EvC (w'.setCell (qQe box t (fun n => (S n).v) (t.par x)) (.slice a1 n1 c1)) eb eo ⟨3, x, tw, i, it⟩ kv) := lH (fun W hW hXW => by
  have hT1 := hT.bel hW
  have hb1 := hb.bel hW
  rw [<- hS]
  refine (qK2 base (S (t.par x)).v ((t.kids (t.par x)).map (icOf t S)) ((t.kids (t.par x)).idxOf x) W (hT1 _ hp).1 (by simpa using hlt) (by simpa using hl _)).mono ?_
  rintro e w2 ⟨y, rfl, o2, g2, f2⟩
  obtain ⟨sv, rfl⟩ := qVf o2
  have hblk := qJy hT1 hw hb1 hp g2
  have hcW := hT1.rd.cell hw hb1.cell hp
  obtain ⟨S2, lab2, M⟩ := mid_of hT1 hw hb1 hx g2 o2 (.inl f2)
  refine ⟨sv.a, sv.n, sv.c, rfl, (World.cell?_of_block hblk).trans hcW, (World.frozen?_of_block hblk).trans (hT1.open_ hw hb1 hp), S2, lab2, M.since hW, ?_, ?_⟩
  · refine hXW.of (M.block _ hXW.lt (fun e => ?_) (fun n hn e => ?_))
    · have := hb.lt; omega
    · have := (hT.lt hn e).2; omega
  · have hbe := M.block eb (Nat.lt_of_lt_of_le hel hW.size) heb hen
    have hE1 := hE.bel hW
    exact ⟨(World.cell?_of_block hbe).trans hE1.kind, (World.cell?_of_block hbe).trans hE1.node, (World.cell?_of_block hbe).trans hE1.dest, (World.cell?_of_block hbe).trans hE1.spot, (World.cell?_of_block hbe).trans hE1.i0, (World.cell?_of_block hbe).trans hE1.i1, (World.cell?_of_block hbe).trans hE1.i2, (World.cell?_of_block hbe).trans hE1.i3, (World.cell?_of_block hbe).trans hE1.i4, (World.cell?_of_block hbe).trans hE1.i5, (World.cell?_of_block hbe).trans hE1.i6, (World.cell?_of_block hbe).trans hE1.i7⟩)
 have cS : Hid (∀ W q r e e2, Bel w W -> Blk W q [.int .i64 hd.node, .int .i64 hd.role, .string ⟨hd.name.toArray⟩, .string ⟨hd.about.toArray⟩, .int .i64 hd.level, .int .i64 hd.checked, .bool hd.off, .slice (S x).a (S x).n (S x).c] e -> Blk W r [.slice (some ⟨q, 0, none⟩) 1 1] e2 -> Calls Try.prog 17 #[.pointer (some ⟨r, 0, none⟩), .int .i64 tw] W (Rv (.tuple #[.pointer none, .int .i64 0]) W)) := lH (fun W q r e e2 hW h1 h2 => sub_none (hT.bel hW).rd hw hh hx hlp hhd (fun b h => h.2) h1 h2)
 have cF2 : Hid (∀ W, Bel w W -> Has t tw -> ∃ a k, Calls Try.prog 17 #[.pointer (some box), .int .i64 tw] W (Rv (.tuple #[.pointer (some a), .int .i64 k]) W)) := lH (fun W hW ht => ⟨_, _, qZt (hT.bel hW) hw hh (hb.bel hW) ht⟩)
 have HC1 : Hid (∀ W, Bel w W -> W.cell? (qQe box t (fun n => (S n).v) (t.par x)) = some (.slice (some ⟨g, off, none⟩) (t.kids (t.par x)).length cap) /\ W.frozen? (qQe box t (fun n => (S n).v) (t.par x)) = false /\ EvC W eb eo ⟨3, x, tw, i, it⟩ kv) := lH (fun W hW => ⟨by rw [<- hS]; exact (hT.bel hW).rd.cell hw (hb.bel hW).cell hp, (hT.bel hW).open_ hw (hb.bel hW) hp, hE.bel hW⟩)
 have hov : (-9223372036854775808 : Int) <= (((t.kids (t.par x)).idxOf x : Nat) : Int) + 1 /\ (((t.kids (t.par x)).idxOf x : Nat) : Int) + 1 <= 9223372036854775807 := by have := hl (t.par x); omega
 clear hE hI hT hb q1 hcc1 hS hh hl hhd
 rw [hdn] at k0
 rw [hdn] at hw1
 generalize qQe box t (fun n => (S n).v) (t.par x) = ca at *
 generalize (t.kids (t.par x)).idxOf x = k at *
 generalize (t.kids (t.par x)).length = L at *
 have HDN := lH hdn
 clear hdn
 rcases hto.symm with htw | htw
 · skip
   have hge : 0 <= tw := htw.ge hw
   have hto : tw = -1 ∨ Has t tw := .inr htw
   obtain ⟨w3, hw3⟩ : ∃ w3, w3 = (w1.alloc (.cells #[.int .i64 hd.node, .int .i64 hd.role, .string ⟨hd.name.toArray⟩, .string ⟨hd.about.toArray⟩, .int .i64 hd.level, .int .i64 hd.checked, .bool hd.off, .slice (S x).a (S x).n (S x).c] 35)).alloc (.cells #[.slice (some ⟨w1.heap.size, 0, none⟩) 1 1] 22) := ⟨_, rfl⟩
   have HB13 : Hid (Bel w1 w3) := lH (by rw [hw3]; exact ((Bel.refl w1).alloc _).alloc _)
   have HB3 : Hid (Bel w w3) := lH (Bel.then HB1.out HB13.out)
   have HX3 : Hid (Blk w3 w.heap.size [.int .i64 hd.node, .int .i64 hd.role, .string ⟨hd.name.toArray⟩, .string ⟨hd.about.toArray⟩, .int .i64 hd.level, .int .i64 hd.checked, .bool hd.off, .slice (S x).a (S x).n (S x).c] 35) := lH (HX1.out.bel HB13.out)
   have hsz : (w1.alloc (.cells #[.int .i64 hd.node, .int .i64 hd.role, .string ⟨hd.name.toArray⟩, .string ⟨hd.about.toArray⟩, .int .i64 hd.level, .int .i64 hd.checked, .bool hd.off, .slice (S x).a (S x).n (S x).c] 35)).heap.size = w1.heap.size + 1 := by simp
   have HQ : Hid (Blk w3 w1.heap.size [.int .i64 hd.node, .int .i64 hd.role, .string ⟨hd.name.toArray⟩, .string ⟨hd.about.toArray⟩, .int .i64 hd.level, .int .i64 hd.checked, .bool hd.off, .slice (S x).a (S x).n (S x).c] 35) := lH (by
    rw [hw3]
    exact (Blk.new' w1 _ rfl #[.int .i64 hd.node, .int .i64 hd.role, .string ⟨hd.name.toArray⟩, .string ⟨hd.about.toArray⟩, .int .i64 hd.level, .int .i64 hd.checked, .bool hd.off, .slice (S x).a (S x).n (S x).c] 35).bel ((Bel.refl _).alloc _))
   have HR : Hid (Blk w3 (w1.heap.size + 1) [.slice (some ⟨w1.heap.size, 0, none⟩) 1 1] 22) := lH (by
    rw [hw3]
    exact Blk.new' _ _ hsz.symm #[.slice (some ⟨w1.heap.size, 0, none⟩) 1 1] 22)
   clear hsz
   have cS3 := lH (cS.out w3 _ _ _ _ HB3.out HQ.out HR.out)
   obtain ⟨aT, kT, cT⟩ := cF2.out w3 HB3.out htw
   have HTW := lH htw
   have HCT := lH cT
   clear htw cT
   go_enter Try.func27, Try.ntmps27
   go_upto_region 5 with (go_at_call 17; (with_reducible refine cF.out.mono ?_); rintro e w1 ⟨rfl, rfl⟩)
   rw [<- hw1]
   clear hw1 hcc0 k0 k1 k2 k3 k4 k5 k6 k7 en
   obtain ⟨c1, f1, hE1⟩ := HC1.out w1 HB1.out
   have e2 : w1.cell? ⟨eb, eo + 2, none⟩ = some (.int .i64 tw) := hE1.dest
   clear hE1
   have v0 := HX1.out.cell 0
   have v1 := HX1.out.cell 1
   have v2 := HX1.out.cell 2
   have v3 := HX1.out.cell 3
   have v4 := HX1.out.cell 4
   have v5 := HX1.out.cell 5
   have v6 := HX1.out.cell 6
   have v7 := HX1.out.cell 7
   simp only [List.getElem?_cons_zero, List.getElem?_cons_succ] at v0 v1 v2 v3 v4 v5 v6 v7
   go_upto_region 7 with fail
   rw [<- hw3]
   clear hw3 e2 c1 f1 v0 v1 v2 v3 v4 v5 v6 v7
   obtain ⟨c1, f1, hE1⟩ := HC1.out w3 HB3.out
   have e2 : w3.cell? ⟨eb, eo + 2, none⟩ = some (.int .i64 tw) := hE1.dest
   clear hE1
   go_upto_region 13 with first
    | (go_at_call 17; (with_reducible refine cS3.out.mono ?_); rintro e w8 ⟨rfl, rfl⟩)
    | (go_at_call 17; (with_reducible refine HCT.out.mono ?_); rintro e w8 ⟨rfl, rfl⟩)
   clear cS3 HCT HQ HR HB13
   go_upto_region 14 with (go_at_call 28; (with_reducible refine (cD.out _ HB3.out HX3.out).mono ?_); rintro e w4 ⟨ya, yn, yc, rfl, x6, f6, S2, lab2, hM, hX4, hE4⟩; have HM := lH hM; have HX4 := lH hX4; have HE4 := lH hE4; clear hM hX4 hE4)
   clear cD cF cS
   obtain ⟨W2, hW2⟩ : ∃ W2, W2 = w4.setCell ca (.slice ya yn yc) := ⟨_, rfl⟩
   rw [<- hW2] at HM HX4 HE4 ⊢
   clear hW2
   obtain ⟨sa2, sc2, u1, u2, HT⟩ := qVi HM.out hw HH.out hx hto hlp hi HLL.out hbase HHD.out
   obtain ⟨c2, hc2⟩ : ∃ y, y = qQe box (dropF t x) (fun n => (S2 n).v) tw := ⟨_, rfl⟩
   rw [<- hc2] at HT
   have HHT := lH HT
   clear hc2
   obtain ⟨-, m1, m2, -⟩ := HHT.out W2 (Bel.refl _)
   clear HT
   generalize hM2 : (cutF t x tw).length = M2 at *
   have cIn := lH (fun W hW => (HHT.out W hW).1)
   obtain ⟨-, -, e2, e3, -, -, -, -, -, -, -, -⟩ := HE4.out
   have e2 : W2.cell? ⟨eb, eo + 2, none⟩ = some (.int .i64 tw) := e2
   have e3 : W2.cell? ⟨eb, eo + 3, none⟩ = some (.int .i64 i) := e3
   have hneg2 : decide ((i : Int) < 0) = false := by simp
   have hgt2 : decide ((i : Int) > (M2 : Int)) = false := by simp; omega
   go_upto_region 15 with (go_at_call 31; (with_reducible refine (cIn.out _ (Bel.refl _)).mono ?_); rintro e w5 ⟨rfl, rfl⟩)
   go_quiet (fail)
   go_upto_region 16 with fail
   refine qWl (E := fun W => Bel W2 W) (qKn (Bel.refl W2) _) ?_
   intro W3 hB3
   have HB3 := lH hB3
   clear hB3 m1 m2 e2 e3
   obtain ⟨-, hca, hfz, cI3⟩ := HHT.out W3 HB3.out
   have hA := lH ((Bel.refl W3).alloc (.cells #[.int .i64 hd.node, .int .i64 hd.role, .string ⟨hd.name.toArray⟩, .string ⟨hd.about.toArray⟩, .int .i64 hd.level, .int .i64 hd.checked, .bool hd.off, .slice (S x).a (S x).n (S x).c] 35))
   obtain ⟨-, ya2, yf2, -⟩ := HHT.out _ (Bel.then HB3.out hA.out)
   have cI3 := lH cI3
   have hX5 := HX4.out.bel HB3.out
   have hE5 := HE4.out.bel HB3.out
   have hE6 := hE5.bel hA.out
   have hX6 := hX5.bel hA.out
   have z3 : W3.cell? ⟨eb, eo + 3, none⟩ = some (.int .i64 i) := hE5.spot
   have y3 : (W3.alloc (.cells #[.int .i64 hd.node, .int .i64 hd.role, .string ⟨hd.name.toArray⟩, .string ⟨hd.about.toArray⟩, .int .i64 hd.level, .int .i64 hd.checked, .bool hd.off, .slice (S x).a (S x).n (S x).c] 35)).cell? ⟨eb, eo + 3, none⟩ = some (.int .i64 i) := hE6.spot
   have v0 := hX5.cell 0
   have v1 := hX5.cell 1
   have v2 := hX5.cell 2
   have v3 := hX5.cell 3
   have v4 := hX5.cell 4
   have v5 := hX5.cell 5
   have v6 := hX5.cell 6
   have v7 := hX5.cell 7
   simp only [List.getElem?_cons_zero, List.getElem?_cons_succ] at v0 v1 v2 v3 v4 v5 v6 v7
   clear hE5 hE6 hX5 hX6 hA cIn
   have eIns := lH (enters_of (P := Try.prog) Try.func33 (by kernel_rfl) rfl)
   go_upto_region 17 with fail
   go_region_law (refine qKh rfl 33 eIns.out #[.tmp 93, .tmp 97, .tmp 99] _ rfl (vs := #[.slice sa2 M2 sc2, .int .i64 i, .slice (some ⟨W3.heap.size, 0, none⟩) 1 1]) ?hv cI3.out ?_; (case hv => simp [Act.eval]); rintro e w6 ⟨ya, yn, yc, rfl, x6, f6, st⟩; refine ⟨_, rfl, ?_⟩; have HST := lH st; clear st)
   all_goals
    go_wp2
    go_ret
    exact ⟨rfl, HST.out⟩
 · have hge : ¬ (0 <= tw) := by omega
   have hto : tw = -1 ∨ Has t tw := .inl htw
   have HTW := lH htw
   clear htw
   go_enter Try.func27, Try.ntmps27
   go_upto_region 5 with (go_at_call 17; (with_reducible refine cF.out.mono ?_); rintro e w1 ⟨rfl, rfl⟩)
   rw [<- hw1]
   clear hw1 hcc0 k0 k1 k2 k3 k4 k5 k6 k7 en
   obtain ⟨c1, f1, hE1⟩ := HC1.out w1 HB1.out
   have e2 : w1.cell? ⟨eb, eo + 2, none⟩ = some (.int .i64 tw) := hE1.dest
   clear hE1
   go_upto_region 14 with (go_at_call 28; (with_reducible refine (cD.out _ HB1.out HX1.out).mono ?_); rintro e w4 ⟨ya, yn, yc, rfl, x6, f6, S2, lab2, hM, hX4, hE4⟩; have HM := lH hM; have HX4 := lH hX4; have HE4 := lH hE4; clear hM hX4 hE4)
   clear cD cF cS
   obtain ⟨W2, hW2⟩ : ∃ W2, W2 = w4.setCell ca (.slice ya yn yc) := ⟨_, rfl⟩
   rw [<- hW2] at HM HX4 HE4 ⊢
   clear hW2
   obtain ⟨sa2, sc2, u1, u2, HT⟩ := qVi HM.out hw HH.out hx hto hlp hi HLL.out hbase HHD.out
   obtain ⟨c2, hc2⟩ : ∃ y, y = qQe box (dropF t x) (fun n => (S2 n).v) tw := ⟨_, rfl⟩
   rw [<- hc2] at HT
   have HHT := lH HT
   clear hc2
   obtain ⟨-, m1, m2, -⟩ := HHT.out W2 (Bel.refl _)
   clear HT
   generalize hM2 : (cutF t x tw).length = M2 at *
   have cIn := lH (fun W hW => (HHT.out W hW).1)
   obtain ⟨-, -, e2, e3, -, -, -, -, -, -, -, -⟩ := HE4.out
   have e2 : W2.cell? ⟨eb, eo + 2, none⟩ = some (.int .i64 tw) := e2
   have e3 : W2.cell? ⟨eb, eo + 3, none⟩ = some (.int .i64 i) := e3
   have hneg2 : decide ((i : Int) < 0) = false := by simp
   have hgt2 : decide ((i : Int) > (M2 : Int)) = false := by simp; omega
   go_upto_region 15 with (go_at_call 31; (with_reducible refine (cIn.out _ (Bel.refl _)).mono ?_); rintro e w5 ⟨rfl, rfl⟩)
   go_quiet (fail)
   go_upto_region 16 with fail
   refine qWl (E := fun W => Bel W2 W) (qKn (Bel.refl W2) _) ?_
   intro W3 hB3
   have HB3 := lH hB3
   clear hB3 m1 m2 e2 e3
   obtain ⟨-, hca, hfz, cI3⟩ := HHT.out W3 HB3.out
   have hA := lH ((Bel.refl W3).alloc (.cells #[.int .i64 hd.node, .int .i64 hd.role, .string ⟨hd.name.toArray⟩, .string ⟨hd.about.toArray⟩, .int .i64 hd.level, .int .i64 hd.checked, .bool hd.off, .slice (S x).a (S x).n (S x).c] 35))
   obtain ⟨-, ya2, yf2, -⟩ := HHT.out _ (Bel.then HB3.out hA.out)
   have cI3 := lH cI3
   have hX5 := HX4.out.bel HB3.out
   have hE5 := HE4.out.bel HB3.out
   have hE6 := hE5.bel hA.out
   have hX6 := hX5.bel hA.out
   have z3 : W3.cell? ⟨eb, eo + 3, none⟩ = some (.int .i64 i) := hE5.spot
   have y3 : (W3.alloc (.cells #[.int .i64 hd.node, .int .i64 hd.role, .string ⟨hd.name.toArray⟩, .string ⟨hd.about.toArray⟩, .int .i64 hd.level, .int .i64 hd.checked, .bool hd.off, .slice (S x).a (S x).n (S x).c] 35)).cell? ⟨eb, eo + 3, none⟩ = some (.int .i64 i) := hE6.spot
   have v0 := hX5.cell 0
   have v1 := hX5.cell 1
   have v2 := hX5.cell 2
   have v3 := hX5.cell 3
   have v4 := hX5.cell 4
   have v5 := hX5.cell 5
   have v6 := hX5.cell 6
   have v7 := hX5.cell 7
   simp only [List.getElem?_cons_zero, List.getElem?_cons_succ] at v0 v1 v2 v3 v4 v5 v6 v7
   clear hE5 hE6 hX5 hX6 hA cIn
   have eIns := lH (enters_of (P := Try.prog) Try.func33 (by kernel_rfl) rfl)
   go_upto_region 17 with fail
   go_region_law (refine qKh rfl 33 eIns.out #[.tmp 93, .tmp 97, .tmp 99] _ rfl (vs := #[.slice sa2 M2 sc2, .int .i64 i, .slice (some ⟨W3.heap.size, 0, none⟩) 1 1]) ?hv cI3.out ?_; (case hv => simp [Act.eval]); rintro e w6 ⟨ya, yn, yc, rfl, x6, f6, st⟩; refine ⟨_, rfl, ?_⟩; have HST := lH st; clear st)
   all_goals
    go_wp2
    go_ret
    exact ⟨rfl, HST.out⟩
end Go.Proofs.Ytklbmkaomojciaa
