/- diff.add: walked. -/
import Derived.Test.YtklbmkaomojciaaTabSet
import Derived.Test.YtklbmkaomojciaaStepCall
import Derived.Deep.RegionLaw
import Derived.BigQuiet
import Derived.Deep.Cut
import Derived.Deep.DeepCutAuto
import Derived.Deep.CutBlock
set_option maxRecDepth 100000
set_option maxHeartbeats 4000000
namespace Go.Proofs.Ytklbmkaomojciaa
open Go.RowKit
structure EvC (w : World) (b o : Nat) (e : Evt) (kv : Value) : Prop where
 kind : w.cell? ⟨b, o, none⟩ = some (.int .i64 e.kind)
 node : w.cell? ⟨b, o + 1, none⟩ = some (.int .i64 e.node)
 dest : w.cell? ⟨b, o + 2, none⟩ = some (.int .i64 e.dest)
 spot : w.cell? ⟨b, o + 3, none⟩ = some (.int .i64 e.spot)
 i0 : w.cell? ⟨b, o + 4, none⟩ = some (.int .i64 e.item.h.node)
 i1 : w.cell? ⟨b, o + 5, none⟩ = some (.int .i64 e.item.h.role)
 i2 : w.cell? ⟨b, o + 6, none⟩ = some (.string ⟨e.item.h.name.toArray⟩)
 i3 : w.cell? ⟨b, o + 7, none⟩ = some (.string ⟨e.item.h.about.toArray⟩)
 i4 : w.cell? ⟨b, o + 8, none⟩ = some (.int .i64 e.item.h.level)
 i5 : w.cell? ⟨b, o + 9, none⟩ = some (.int .i64 e.item.h.checked)
 i6 : w.cell? ⟨b, o + 10, none⟩ = some (.bool e.item.h.off)
 i7 : w.cell? ⟨b, o + 11, none⟩ = some kv
theorem qWl {P : Program} {c : Code} {Q : Exit -> Act -> World -> Prop} {a : Act} {W : World} {E : World -> Prop} (hE : E W) (h : ∀ w, E w -> c.wp P Q a w) : c.wp P Q a W := h W hE
theorem qKn {a w : World} (h : Bel a w) (n : Nat) : Bel a (w.drewN n) := Below.trans h (Drew.below ⟨n, rfl⟩ _)
theorem qQs {w w' : World} (h : w'.heap = w.heap) (a : Addr) : w'.cell? a = w.cell? a := World.cell?_of_block (by rw [h])
theorem qQg.heap {base : Nat} {w w' : World} {S : Int -> Sv} {lab : Nat -> Int} {t : Fl} (h : qQg base w S lab t) (e : w'.heap = w.heap) : qQg base w' S lab t := fun n hn => ⟨(h n hn).1.agree (fun b _ => by rw [e]) (fun _ _ _ hr => hr), (h n hn).2⟩
theorem EvC.heap {w w' : World} {b o : Nat} {e : Evt} {kv : Value} (h : EvC w b o e kv) (he : w'.heap = w.heap) : EvC w' b o e kv :=
 ⟨(qQs he _).trans h.kind, (qQs he _).trans h.node, (qQs he _).trans h.dest, (qQs he _).trans h.spot, (qQs he _).trans h.i0, (qQs he _).trans h.i1, (qQs he _).trans h.i2, (qQs he _).trans h.i3, (qQs he _).trans h.i4, (qQs he _).trans h.i5, (qQs he _).trans h.i6, (qQs he _).trans h.i7⟩
structure BoxOk (w : World) (box : Addr) (S : Int -> Sv) (t : Fl) : Prop where
 cell : w.cell? box = some (S (-1)).v
 open' : w.frozen? box = false
 lt : box.block < w.heap.size
 apart : ∀ n, (n = -1 ∨ Has t n) -> (S n).v.ownBlock ≠ some box.block
def Side (box : Addr) (w w' : World) : Prop := box.block < w.heap.size -> (∀ o, o ≠ box.off -> w'.cell? ⟨box.block, o, none⟩ = w.cell? ⟨box.block, o, none⟩ /\ w'.frozen? ⟨box.block, o, none⟩ = w.frozen? ⟨box.block, o, none⟩) /\ ∀ C e, Blk w box.block C e -> ∃ C', Blk w' box.block C' e
theorem Side.of_block {box : Addr} {w w' : World} (h : box.block < w.heap.size -> w'.heap[box.block]? = w.heap[box.block]?) : Side box w w' := fun hl => ⟨fun _ _ => ⟨World.cell?_of_block (h hl), World.frozen?_of_block (h hl)⟩, fun C _ hk => ⟨C, hk.of (h hl)⟩⟩
theorem Side.trans {box : Addr} {a b c : World} (h : Side box a b) (k : Side box b c) (hs : a.heap.size <= b.heap.size) : Side box a c := fun hl => by
 obtain ⟨h1, h2⟩ := h hl
 obtain ⟨k1, k2⟩ := k (Nat.lt_of_lt_of_le hl hs)
 refine ⟨fun o ho => ⟨(k1 o ho).1.trans (h1 o ho).1, (k1 o ho).2.trans (h1 o ho).2⟩, fun C e hk => ?_⟩
 obtain ⟨C2, h3⟩ := h2 C e hk
 exact k2 C2 e h3
theorem Side.bel {box : Addr} {a b : World} (h : Bel a b) : Side box a b := Side.of_block (fun hl => h.block _ hl)
theorem Blk.any {w : World} {g : Nat} {C : List Value} {e : TypeId} (h : Blk w g C e) (a : Addr) (v : Value) : ∃ C', Blk (w.setCell a v) g C' e := by
 by_cases hg : g = a.block
 · have h' : w.heap[g]? = _ := h
   unfold Blk
   cases hs : a.spot.isSome with
   | true => exact ⟨C, by simp [World.setCell, Array.getElem?_modify, h', hg.symm, hs]⟩
   | false => exact ⟨C.set a.off v, by simp [World.setCell, Array.getElem?_modify, h', hg.symm, hs]⟩
 · exact ⟨C, h.other a v hg⟩
structure Kept (w w' : World) (box : Addr) (S S' : Int -> Sv) (t t' : Fl) : Prop where
 os : w'.os = w.os
 tape : w'.tape = w.tape
 output : w'.output = w.output
 size : w.heap.size <= w'.heap.size
 block : ∀ b, b < w.heap.size -> b ≠ box.block -> (∀ n, (n = -1 ∨ Has t n) -> (S n).v.ownBlock ≠ some b) -> w'.heap[b]? = w.heap[b]?
 rows : ∀ n, (n = -1 ∨ Has t' n) -> ∀ b, (S' n).v.ownBlock = some b -> w.heap.size <= b ∨ ∃ m, (m = -1 ∨ Has t m) /\ (S m).v.ownBlock = some b
 side : Side box w w'
theorem qQg.open_ {base : Nat} {w : World} {S : Int -> Sv} {lab : Nat -> Int} {t : Fl} (h : qQg base w S lab t) (hw : Wf t) {box : Addr} (hb : BoxOk w box S t) {n : Int} (hn : n = -1 ∨ Has t n) : w.frozen? (qQe box t (fun n => (S n).v) n) = false := by
 rcases h.cell hw hn box with ⟨_, e⟩ | ⟨hh, g, cap, hS, e⟩
 · rw [e]; exact hb.open'
 · have hp : t.par n = -1 ∨ Has t (t.par n) := hw.kids_has (by intro e; unfold Has at hh; rw [e] at hh; simp at hh)
   have hr := (h _ hp).1
   rw [e]
   obtain ⟨xss, q1, q2, q3⟩ := hr
   rw [hS] at q3
   rcases q3.2 with ⟨e1, _⟩ | ⟨g', cap', cur, e1, _, hg, _⟩
   · unfold Sv.v at e1; simp at e1
   · have : g = g' := by unfold Sv.v at e1; simp at e1; exact e1.1
     subst this
     exact frozen_of_row w g _ cur _ hg
def Grew (base : Nat) (box : Addr) (w : World) (S : Int -> Sv) (t : Fl) (w' : World) (t' : Fl) : Prop :=
 ∃ S' lab', qQg base w' S' lab' t' /\ BoxOk w' box S' t' /\ Kept w w' box S S' t t'
theorem BoxOk.heap {w w' : World} {box : Addr} {S : Int -> Sv} {t : Fl} (h : BoxOk w box S t) (e : w'.heap = w.heap) : BoxOk w' box S t :=
 ⟨(qQs e _).trans h.cell, (World.frozen?_of_block (by rw [e])).trans h.open', by rw [e]; exact h.lt, h.apart⟩
theorem Grew.heap {base : Nat} {box : Addr} {w w1 w2 : World} {S : Int -> Sv} {t t' : Fl} (h : Grew base box w S t w1 t') (e : w2.heap = w1.heap) (e1 : w2.os = w1.os) (e2 : w2.tape = w1.tape) (e3 : w2.output = w1.output) : Grew base box w S t w2 t' := by
 obtain ⟨S', lab', h1, h2, h3⟩ := h
 exact ⟨S', lab', h1.heap e, h2.heap e, ⟨e1.trans h3.os, e2.trans h3.tape, e3.trans h3.output, by rw [e]; exact h3.size, fun b a1 a2 a3 => by rw [e]; exact h3.block b a1 a2 a3, h3.rows, h3.side.trans (Side.of_block (fun _ => by rw [e])) h3.size⟩⟩
theorem qQg.bel {base : Nat} {w w' : World} {S : Int -> Sv} {lab : Nat -> Int} {t : Fl} (h : qQg base w S lab t) (hb : Bel w w') : qQg base w' S lab t := fun n hn => ⟨(h n hn).1.agree (fun b hb' => hb.block b ((h n hn).1.lt b hb').2) (fun _ _ _ hr => hr), (h n hn).2⟩
theorem BoxOk.bel {w w' : World} {box : Addr} {S : Int -> Sv} {t : Fl} (h : BoxOk w box S t) (hb : Bel w w') : BoxOk w' box S t :=
 ⟨(World.cell?_of_block (hb.block _ h.lt)).trans h.cell, (World.frozen?_of_block (hb.block _ h.lt)).trans h.open', Nat.lt_of_lt_of_le h.lt hb.size, h.apart⟩
theorem Grew.of_bel {base : Nat} {box : Addr} {w w0 w1 : World} {S : Int -> Sv} {t t' : Fl} (hb : Bel w w0) (h : Grew base box w0 S t w1 t') : Grew base box w S t w1 t' := by
 obtain ⟨S', lab', h1, h2, h3⟩ := h
 refine ⟨S', lab', h1, h2, ⟨h3.os.trans hb.os, h3.tape.trans hb.tape, h3.output.trans hb.output, Nat.le_trans hb.size h3.size, fun b a1 a2 a3 => (h3.block b (Nat.lt_of_lt_of_le a1 hb.size) a2 a3).trans (hb.block b a1), fun n hn b hb' => ?_, (Side.bel hb).trans h3.side hb.size⟩⟩
 rcases h3.rows n hn b hb' with e | e
 · exact .inl (Nat.le_trans hb.size e)
 · exact .inr e
theorem qYz {base : Nat} {w w' : World} {S : Int -> Sv} {lab : Nat -> Int} {t : Fl} (h : qQg base w S lab t) (hw : Wf t) {box : Addr} (hb : BoxOk w box S t) {tw : Int} (hto : tw = -1 ∨ Has t tw) {s' : Sv} (hg : w.grownBy w' (S tw).v.ownBlock) (hF : qQu w (S tw).v s'.v) :
 (w'.setCell (qQe box t (fun n => (S n).v) tw) s'.v).cell? box = some (if tw = -1 then s' else S (-1)).v /\ (w'.setCell (qQe box t (fun n => (S n).v) tw) s'.v).frozen? box = false /\ box.block < (w'.setCell (qQe box t (fun n => (S n).v) tw) s'.v).heap.size /\ s'.v.ownBlock ≠ some box.block /\
 (∀ b, b < w.heap.size -> b ≠ box.block -> (∀ n, (n = -1 ∨ Has t n) -> (S n).v.ownBlock ≠ some b) -> (w'.setCell (qQe box t (fun n => (S n).v) tw) s'.v).heap[b]? = w.heap[b]?) /\ Side box w (w'.setCell (qQe box t (fun n => (S n).v) tw) s'.v) := by
 have hbox : w'.heap[box.block]? = w.heap[box.block]? := hg.block _ hb.lt (fun e => hb.apart tw hto e.symm)
 have hcb : w'.cell? box = some (S (-1)).v := (World.cell?_of_block hbox).trans hb.cell
 refine ⟨?_, ?_, ?_, ?_, fun b h1 h2 h3 => h.still hw hto hg h1 h2 h3, fun _ => ⟨fun o ho => ⟨?_, ?_⟩, fun C e hk => (hk.of hbox).any _ _⟩⟩
 · rcases h.cell hw hto box with ⟨e0, e⟩ | ⟨hh, g, cap, hS, e⟩
   · rw [e, if_pos e0]
     exact World.cell?_setCell_same _ _ _ hcb
   · have hp : t.par tw = -1 ∨ Has t (t.par tw) := hw.kids_has (by intro e; unfold Has at hh; rw [e] at hh; simp at hh)
     have h0 := hh.ge hw
     rw [e, if_neg (by omega), World.cell?_setCell_other _ _ _ _ (by
      intro e2
      exact hb.apart _ hp (by rw [hS]; show some g = some box.block; have e3 := congrArg Addr.block e2; simp at e3; rw [e3])), hcb]
 · rw [World.frozen?_setCell, World.frozen?_of_block hbox]
   exact hb.open'
 · rw [World.size_setCell]
   exact Nat.lt_of_lt_of_le hb.lt hg.size
 · rcases hF with e | ⟨k, e, hk⟩
   · rw [e]; exact hb.apart tw hto
   · rw [e]
     intro e2
     cases e2
     have := hb.lt
     omega
 · rw [World.cell?_setCell_other _ _ _ _ (fun e2 => ?_)]
   · exact World.cell?_of_block hbox
   · rcases h.cell hw hto box with ⟨_, e⟩ | ⟨hh, g, cap, hS, e⟩
     · rw [e] at e2
       exact ho (congrArg Addr.off e2).symm
     · have hp : t.par tw = -1 ∨ Has t (t.par tw) := hw.kids_has (by intro e; unfold Has at hh; rw [e] at hh; simp at hh)
       rw [e] at e2
       exact hb.apart _ hp (by rw [hS]; show some g = some box.block; have e3 := congrArg Addr.block e2; simp at e3; rw [e3])
 · rw [World.frozen?_setCell]
   exact World.frozen?_of_block hbox
theorem add_grew {base : Nat} {w w' : World} {S : Int -> Sv} {lab : Nat -> Int} {t : Fl} (h : qQg base w S lab t) (hw : Wf t) {box : Addr} (hb : BoxOk w box S t) {x tw : Int} {hd : Hd} {i : Nat} (hx : ¬ Has t x) (h0 : 0 <= x) (hto : tw = -1 ∨ Has t tw) (hi : i <= (t.kids tw).length) {s' : Sv} (hg : w.grownBy w' (S tw).v.ownBlock)
 (hO : qQc 8 rdIc base 35 w' s'.v (((t.kids tw).map (icOf t S)).take i ++ [⟨hd, none, 0, 0⟩] ++ ((t.kids tw).map (icOf t S)).drop i)) (hF : qQu w (S tw).v s'.v) :
 Grew base box w S t (w'.setCell (qQe box t (fun n => (S n).v) tw) s'.v) (addF t x hd tw i) := by
 obtain ⟨b1, b2, b3, b4, b5, b6⟩ := qYz h hw hb hto hg hF
 have hxt : x ≠ tw := by
  rintro rfl
  rcases hto with e | e
  · omega
  · exact hx e
 have hrow : ∀ n, (n = -1 ∨ Has (addF t x hd tw i) n) -> ∀ b, (if n = x then ({} : Sv) else if n = tw then s' else S n).v.ownBlock = some b -> s'.v.ownBlock = some b ∨ ∃ m, (m = -1 ∨ Has t m) /\ (S m).v.ownBlock = some b := fun n hn b hb' => by
  by_cases hnx : n = x
  · rw [if_pos hnx] at hb'
    cases hb'
  · rw [if_neg hnx] at hb'
    by_cases hnt : n = tw
    · rw [if_pos hnt] at hb'
      exact .inl hb'
    · rw [if_neg hnt] at hb'
      exact .inr ⟨n, hn.imp id (qYt hi hnx), hb'⟩
 refine ⟨_, _, h.added hw hx h0 hto hi hg hO hF hb.lt hb.apart, ⟨?_, b2, b3, fun n hn e => ?_⟩, ⟨?_, ?_, ?_, ?_, b5, fun n hn b hb' => ?_, b6⟩⟩
 · rw [b1]
   have : (-1 : Int) ≠ x := by omega
   simp only [if_neg this]
   by_cases e : tw = -1
   · subst e; simp
   · have : ¬ (-1 : Int) = tw := fun e2 => e e2.symm
     rw [if_neg e, if_neg this]
 · rcases hrow n hn _ e with e2 | ⟨m, hm, e2⟩
   · exact b4 e2
   · exact hb.apart m hm e2
 · exact hg.os
 · exact hg.tape
 · exact hg.output
 · rw [World.size_setCell]; exact hg.size
 · rcases hrow n hn b hb' with e2 | e2
   · rcases hF with e | ⟨k, e, hk⟩
     · exact .inr ⟨tw, hto, e ▸ e2⟩
     · rw [e] at e2
       cases e2
       exact .inl hk
   · exact .inr e2
theorem EvC.bel {w w' : World} {b o : Nat} {e : Evt} {kv : Value} (h : EvC w b o e kv) (hb : Bel w w') : EvC w' b o e kv := by
 have hl : b < w.heap.size := World.block_lt_of_cell? w _ h.kind
 exact ⟨(hb.cells b _ hl).trans h.kind, (hb.cells b _ hl).trans h.node, (hb.cells b _ hl).trans h.dest, (hb.cells b _ hl).trans h.spot, (hb.cells b _ hl).trans h.i0, (hb.cells b _ hl).trans h.i1, (hb.cells b _ hl).trans h.i2, (hb.cells b _ hl).trans h.i3, (hb.cells b _ hl).trans h.i4, (hb.cells b _ hl).trans h.i5, (hb.cells b _ hl).trans h.i6, (hb.cells b _ hl).trans h.i7⟩
theorem qJy {base : Nat} {w w' : World} {S : Int -> Sv} {lab : Nat -> Int} {t : Fl} (h : qQg base w S lab t) (hw : Wf t) {box : Addr} (hb : BoxOk w box S t) {tw : Int} (hto : tw = -1 ∨ Has t tw) (hg : w.grownBy w' (S tw).v.ownBlock) : w'.heap[(qQe box t (fun n => (S n).v) tw).block]? = w.heap[(qQe box t (fun n => (S n).v) tw).block]? := by
 refine hg.block _ (World.block_lt_of_cell? _ _ (h.rd.cell hw hb.cell hto)) ?_
 rcases h.cell hw hto box with ⟨e0, e⟩ | ⟨hk, g, cap, hSp, e⟩
 · rw [e]; exact fun e2 => hb.apart tw hto e2.symm
 · rw [e]
   have hp : t.par tw = -1 ∨ Has t (t.par tw) := hw.kids_has (by intro e; unfold Has at hk; rw [e] at hk; simp at hk)
   refine fun e2 => h.apart hp hto ?_ (b := g) (by rw [hSp]; rfl) e2.symm
   intro e3
   obtain ⟨μ, N, F⟩ := hw.falls
   have := F.down _ _ hk
   rw [e3] at this
   omega
theorem qYv {base : Nat} {w : World} {S : Int -> Sv} {lab : Nat -> Int} {t : Fl} (hT : qQg base w S lab t) (hw : Wf t) (hh : ∀ n, Has t n -> (t.head n).node = n) {box : Addr} (hb : BoxOk w box S t) {hd : Hd} {nd tw : Int} {i : Nat} {eb eo : Nat} (hE : EvC w eb eo ⟨2, nd, tw, i, .mk hd []⟩ (.slice none 0 0))
 (hx : ¬ Has t hd.node) (h0 : 0 <= hd.node) (hto : tw = -1 ∨ Has t tw) (hi : i <= (t.kids tw).length) (hl : (t.kids tw).length <= 1000000000) (hbase : base <= w.heap.size) :
 Calls Try.prog 26 #[.pointer (some box), .pointer (some ⟨eb, eo, none⟩)] w fun e w' => e = .returned (.int .i64 0) /\ Grew base box w S t w' (addF t hd.node hd tw i) := by
 obtain ⟨μ, N, F⟩ := hw.falls
 obtain ⟨sa, sc, hS, s1, s2⟩ := qQa.form (hT tw hto).1.read
 have hlen : (List.map (icOf t S) (t.kids tw)).length = (t.kids tw).length := by simp
 rw [hlen] at hS s1
 have cI : Hid (∀ W, Bel w W -> Calls Try.prog 31 #[.pointer (some box), .int .i64 tw] W (Rv (.pointer (some (qQe box t (fun n => (S n).v) tw))) W)) := lH (fun W hW => qZ2 hw F (Nat.lt_succ_self N) hh tw W (hT.bel hW).rd (hb.bel hW).cell hto)
 have cF : Hid (∀ W, Bel w W -> Calls Try.prog 17 #[.pointer (some box), .int .i64 hd.node] W (Rv (.tuple #[.pointer none, .int .i64 0]) W)) := lH (fun W hW => by
  have h2 := (hT.bel hW).rd
  have hc := (hb.bel hW).cell
  have := qQy (box := box) hw F hh hd.node (N + 1) (-1) W h2 (.inl rfl) (by omega) (h2.cell hw hc (.inl rfl))
  rw [qKt hw F (Nat.lt_succ_self N) hx] at this
  have eb : qQe box t (fun n => (S n).v) (-1) = box := by unfold qQe; rw [if_pos rfl]
  rw [eb] at this
  exact this)
 have HS : Hid (∀ W, Bel w W -> W.cell? (qQe box t (fun n => (S n).v) tw) = some (.slice sa (t.kids tw).length sc) /\ W.frozen? (qQe box t (fun n => (S n).v) tw) = false /\ EvC W eb eo ⟨2, nd, tw, i, .mk hd []⟩ (.slice none 0 0)) := lH (fun W hW => ⟨by
  have := (hT.bel hW).rd.cell hw (hb.bel hW).cell hto
  rw [<- hS]; exact this, (hT.bel hW).open_ hw (hb.bel hW) hto, hE.bel hW⟩)
 have cIn : Hid (∀ (N : Nat) W, Bel w W -> N = W.heap.size -> Calls Try.prog 33 #[.slice sa (t.kids tw).length sc, .int .i64 i, .slice (some ⟨N, 0, none⟩) 1 1] (W.alloc (.cells #[.int .i64 hd.node, .int .i64 hd.role, .string ⟨hd.name.toArray⟩, .string ⟨hd.about.toArray⟩, .int .i64 hd.level, .int .i64 hd.checked, .bool hd.off, .slice none 0 0] 35)).drew fun e w' => ∃ a1 n1 c1, e = .returned (.slice a1 n1 c1) /\ w'.cell? (qQe box t (fun n => (S n).v) tw) = some (.slice sa (t.kids tw).length sc) /\ w'.frozen? (qQe box t (fun n => (S n).v) tw) = false /\ Grew base box w S t (w'.setCell (qQe box t (fun n => (S n).v) tw) (.slice a1 n1 c1)) (addF t hd.node hd tw i)) := lH (fun N W hW hN => by
  subst hN
  have hB2 : Bel W (W.alloc (.cells #[.int .i64 hd.node, .int .i64 hd.role, .string ⟨hd.name.toArray⟩, .string ⟨hd.about.toArray⟩, .int .i64 hd.level, .int .i64 hd.checked, .bool hd.off, .slice none 0 0] 35)).drew := ((Bel.refl W).alloc _).drew
  have hB := Bel.then hW hB2
  have hT2 := hT.bel hB
  have hown := (hT2 tw hto).1
  rw [<- hS]
  have hq := (Blk.new' W _ rfl #[.int .i64 hd.node, .int .i64 hd.role, .string ⟨hd.name.toArray⟩, .string ⟨hd.about.toArray⟩, .int .i64 hd.level, .int .i64 hd.checked, .bool hd.off, .slice none 0 0] 35).drew
  refine (qK0 base (S tw).v ((t.kids tw).map (icOf t S)) i W.heap.size ⟨hd, none, 0, 0⟩ _ hown (Nat.le_trans hbase hB.size) (by simpa using hi) (by simpa using hl) hq (fun e => by
   have := ((hT.bel hW) tw hto).1.lt _ e
   omega)).mono ?_
  rintro e w2 ⟨y, rfl, o2, g2, f2⟩
  obtain ⟨sv, rfl⟩ := qVf o2
  have hcc := hT2.rd.cell hw (hb.bel hB).cell hto
  have hblk := qJy hT2 hw (hb.bel hB) hto g2
  exact ⟨sv.a, sv.n, sv.c, rfl, (World.cell?_of_block hblk).trans hcc, (World.frozen?_of_block hblk).trans (hT2.open_ hw (hb.bel hB) hto), Grew.of_bel hB (add_grew hT2 hw (hb.bel hB) hx h0 hto hi g2 o2 f2)⟩)
 have hkind := hE.kind
 clear hkind
 generalize hca : qQe box t (fun n => (S n).v) tw = ca at *
 clear hca
 have hB0 := lH (Bel.refl w)
 obtain ⟨hca, hfz, hEv⟩ := HS.out w hB0.out
 have e3 := hEv.spot
 have e2 := hEv.dest
 have e4 := hEv.i0
 have e11 := hEv.i7
 have hneg : decide ((i : Int) < 0) = false := by simp
 have hgt : decide ((i : Int) > ((t.kids tw).length : Int)) = false := by simp; omega
 clear hEv hT hb hE
 go_enter Try.func26, Try.ntmps26
 go_upto_region 4 with (go_at_call 31; (with_reducible refine (cI.out _ hB0.out).mono ?_); rintro e w1 ⟨rfl, rfl⟩)
 go_quiet (fail)
 go_upto_region 6 with fail
 refine qWl (E := fun W => Bel w W) (qKn (Bel.refl w) _) ?_
 intro W1 hB1
 have HB1 := lH hB1
 clear hB1 hca hfz e3 e2 e4 e11
 obtain ⟨hca, hfz, hEv⟩ := HS.out W1 HB1.out
 have e4 : W1.cell? ⟨eb, eo + 4, none⟩ = some (.int .i64 hd.node) := hEv.i0
 have e11 : W1.cell? ⟨eb, eo + 11, none⟩ = some (.slice none 0 0) := hEv.i7
 clear hEv
 go_upto_region 11 with (go_at_call 17; (with_reducible refine (cF.out _ HB1.out).mono ?_); rintro e w1 ⟨rfl, rfl⟩)
 have hB := lH ((Bel.refl W1).alloc (.cells #[.int .i64 hd.node, .int .i64 hd.role, .string ⟨hd.name.toArray⟩, .string ⟨hd.about.toArray⟩, .int .i64 hd.level, .int .i64 hd.checked, .bool hd.off, .slice none 0 0] 35))
 obtain ⟨ya, yf, yE⟩ := HS.out _ (Bel.then HB1.out hB.out)
 obtain ⟨-, -, zE⟩ := HS.out _ HB1.out
 have z3 : W1.cell? ⟨eb, eo + 3, none⟩ = some (.int .i64 i) := zE.spot
 have z4 : W1.cell? ⟨eb, eo + 4, none⟩ = some (.int .i64 hd.node) := zE.i0
 have z5 : W1.cell? ⟨eb, eo + 5, none⟩ = some (.int .i64 hd.role) := zE.i1
 have z6 : W1.cell? ⟨eb, eo + 6, none⟩ = some (.string ⟨hd.name.toArray⟩) := zE.i2
 have z7 : W1.cell? ⟨eb, eo + 7, none⟩ = some (.string ⟨hd.about.toArray⟩) := zE.i3
 have z8 : W1.cell? ⟨eb, eo + 8, none⟩ = some (.int .i64 hd.level) := zE.i4
 have z9 : W1.cell? ⟨eb, eo + 9, none⟩ = some (.int .i64 hd.checked) := zE.i5
 have z10 : W1.cell? ⟨eb, eo + 10, none⟩ = some (.bool hd.off) := zE.i6
 have z11 : W1.cell? ⟨eb, eo + 11, none⟩ = some (.slice none 0 0) := zE.i7
 clear zE
 have y3 : (W1.alloc (.cells #[.int .i64 hd.node, .int .i64 hd.role, .string ⟨hd.name.toArray⟩, .string ⟨hd.about.toArray⟩, .int .i64 hd.level, .int .i64 hd.checked, .bool hd.off, .slice none 0 0] 35)).cell? ⟨eb, eo + 3, none⟩ = some (.int .i64 i) := yE.spot
 clear yE e4 e11
 have cI3 := lH (cIn.out _ W1 HB1.out rfl)
 clear cI cF HS cIn hB
 have eIns := lH (enters_of (P := Try.prog) Try.func33 (by kernel_rfl) rfl)
 go_region_law (refine qKh rfl 33 eIns.out #[.tmp 57, .tmp 61, .tmp 66] _ rfl (vs := #[.slice sa (t.kids tw).length sc, .int .i64 i, .slice (some ⟨W1.heap.size, 0, none⟩) 1 1]) ?hv cI3.out ?_; (case hv => simp [Act.eval]); rintro e w6 ⟨ya, yn, yc, rfl, x6, f6, st⟩; refine ⟨_, rfl, ?_⟩; have HST := lH st; clear st)
 all_goals
  go_wp2
  go_ret
  exact ⟨rfl, HST.out⟩
end Go.Proofs.Ytklbmkaomojciaa
