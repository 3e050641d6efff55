/- diff.add: walked. -/
import Derived.Test.YtklbmkaomojciaaGreatTabSet
import Derived.Deep.DeepCutAuto
import Derived.Deep.CutBlock
namespace Go.Proofs.YtklbmkaomojciaaGreat
open Go.RowKit
structure EvC (w:World) (b o:Nat) (e:Evt) (kv:Value):Prop where
 kind:w.cell? ⟨b,o,none⟩=some (.int .i64 e.kind)
 node:w.cell? ⟨b,o+1,none⟩=some (.int .i64 e.node)
 dest:w.cell? ⟨b,o+2,none⟩=some (.int .i64 e.dest)
 spot:w.cell? ⟨b,o+3,none⟩=some (.int .i64 e.spot)
 i0:w.cell? ⟨b,o+4,none⟩=some (.int .i64 e.item.h.node)
 i1:w.cell? ⟨b,o+5,none⟩=some (.int .i64 e.item.h.role)
 i2:w.cell? ⟨b,o+6,none⟩=some (.string ⟨e.item.h.name.toArray⟩)
 i3:w.cell? ⟨b,o+7,none⟩=some (.string ⟨e.item.h.about.toArray⟩)
 i4:w.cell? ⟨b,o+8,none⟩=some (.int .i64 e.item.h.level)
 i5:w.cell? ⟨b,o+9,none⟩=some (.int .i64 e.item.h.checked)
 i6:w.cell? ⟨b,o+10,none⟩=some (.bool e.item.h.off)
 i7:w.cell? ⟨b,o+11,none⟩=some kv
theorem qQu {w w':World} (h:w'.heap=w.heap) (a:Addr):w'.cell? a=w.cell? a:=World.cell?_of_block (by rw [h])
theorem qQ5.heap {base:Nat} {w w':World} {S:Int->Sv} {lab:Nat->Int} {t:Fl} (h:qQ5 base w S lab t) (e:w'.heap=w.heap):qQ5 base w' S lab t:=fun n hn=>⟨(h n hn).1.agree (fun b _=>by rw [e]) (fun _ _ _ hr=>hr),(h n hn).2⟩
theorem EvC.heap {w w':World} {b o:Nat} {e:Evt} {kv:Value} (h:EvC w b o e kv) (he:w'.heap=w.heap):EvC w' b o e kv:=
 ⟨(qQu he _).trans h.kind,(qQu he _).trans h.node,(qQu he _).trans h.dest,(qQu he _).trans h.spot,(qQu he _).trans h.i0,(qQu he _).trans h.i1,(qQu he _).trans h.i2,(qQu he _).trans h.i3,(qQu he _).trans h.i4,(qQu he _).trans h.i5,(qQu he _).trans h.i6,(qQu he _).trans h.i7⟩
structure BoxOk (w:World) (box:Addr) (S:Int->Sv) (t:Fl):Prop where
 cell:w.cell? box=some (S (-1)).v
 open':w.frozen? box=false
 lt:box.block<w.heap.size
 apart:∀ n,(n = -1∨Has t n)->(S n).v.ownBlock≠some box.block
def Side (box:Addr) (w w':World):Prop:=box.block<w.heap.size->(∀ o,o≠box.off->w'.cell? ⟨box.block,o,none⟩=w.cell? ⟨box.block,o,none⟩/\w'.frozen? ⟨box.block,o,none⟩=w.frozen? ⟨box.block,o,none⟩)/\∀ C e,Blk w box.block C e->∃ C',Blk w' box.block C' e
theorem Side.of_block {box:Addr} {w w':World} (h:box.block<w.heap.size->w'.heap[box.block]?=w.heap[box.block]?):Side box w w':=fun hl=>⟨fun _ _=>⟨World.cell?_of_block (h hl),World.frozen?_of_block (h hl)⟩,fun C _ hk=>⟨C,hk.of (h hl)⟩⟩
theorem Side.trans {box:Addr} {a b c:World} (h:Side box a b) (k:Side box b c) (hs:a.heap.size<=b.heap.size):Side box a c:=fun hl=>by
 obtain ⟨h1,h2⟩:=h hl
 obtain ⟨k1,k2⟩:=k (Zc hl hs)
 refine ⟨fun o ho=>⟨(k1 o ho).1.trans (h1 o ho).1,(k1 o ho).2.trans (h1 o ho).2⟩,fun C e hk=>?_⟩
 obtain ⟨C2,h3⟩:=h2 C e hk
 exact k2 C2 e h3
theorem Side.bel {box:Addr} {a b:World} (h:Bel a b):Side box a b:=Side.of_block (fun hl=>h.block _ hl)
theorem Blk.any {w:World} {g:Nat} {C:List Value} {e:TypeId} (h:Blk w g C e) (a:Addr) (v:Value):∃ C',Blk (w.setCell a v) g C' e:=by
 by_cases hg:g=a.block
 ·have h':w.heap[g]?=_:=h
  unfold Blk
  cases hs:a.spot.isSome with
  | true=>exact ⟨C,by simp [World.setCell,Array.getElem?_modify,h',hg.symm,hs]⟩
  | false=>exact ⟨C.set a.off v,by simp [World.setCell,Array.getElem?_modify,h',hg.symm,hs]⟩
 ·exact ⟨C,h.other a v hg⟩
structure Kept (w w':World) (box:Addr) (S S':Int->Sv) (t t':Fl):Prop where
 os:w'.os=w.os
 tape:w'.tape=w.tape
 output:w'.output=w.output
 size:w.heap.size<=w'.heap.size
 block:∀ b,b<w.heap.size->b≠box.block->(∀ n,(n = -1∨Has t n)->(S n).v.ownBlock≠some b)->w'.heap[b]?=w.heap[b]?
 rows:∀ n,(n = -1∨Has t' n)->∀ b,(S' n).v.ownBlock=some b->w.heap.size<=b∨∃ m,(m = -1∨Has t m)/\(S m).v.ownBlock=some b
 side:Side box w w'
def Grew (base:Nat) (box:Addr) (w:World) (S:Int->Sv) (t:Fl) (w':World) (t':Fl):Prop:=
 ∃ S' lab',qQ5 base w' S' lab' t'/\BoxOk w' box S' t'/\Kept w w' box S S' t t'
theorem BoxOk.heap {w w':World} {box:Addr} {S:Int->Sv} {t:Fl} (h:BoxOk w box S t) (e:w'.heap=w.heap):BoxOk w' box S t:=
 ⟨(qQu e _).trans h.cell,(World.frozen?_of_block (by rw [e])).trans h.open',by rw [e];exact h.lt,h.apart⟩
theorem Grew.heap {base:Nat} {box:Addr} {w w1 w2:World} {S:Int->Sv} {t t':Fl} (h:Grew base box w S t w1 t') (e:w2.heap=w1.heap) (e1:w2.os=w1.os) (e2:w2.tape=w1.tape) (e3:w2.output=w1.output):Grew base box w S t w2 t':=by
 obtain ⟨S',lab',h1,h2,h3⟩:=h
 exact ⟨S',lab',h1.heap e,h2.heap e,⟨e1.trans h3.os,e2.trans h3.tape,e3.trans h3.output,by rw [e];exact h3.size,fun b a1 a2 a3=>by rw [e];exact h3.block b a1 a2 a3,h3.rows,h3.side.trans (Side.of_block (fun _=>by rw [e])) h3.size⟩⟩
theorem qQ5.bel {base:Nat} {w w':World} {S:Int->Sv} {lab:Nat->Int} {t:Fl} (h:qQ5 base w S lab t) (hb:Bel w w'):qQ5 base w' S lab t:=fun n hn=>⟨(h n hn).1.agree (fun b hb'=>hb.block b ((h n hn).1.lt b hb').2) (fun _ _ _ hr=>hr),(h n hn).2⟩
theorem BoxOk.bel {w w':World} {box:Addr} {S:Int->Sv} {t:Fl} (h:BoxOk w box S t) (hb:Bel w w'):BoxOk w' box S t:=
 ⟨(World.cell?_of_block (hb.block _ h.lt)).trans h.cell,(World.frozen?_of_block (hb.block _ h.lt)).trans h.open',Zc h.lt hb.size,h.apart⟩
theorem EvC.bel {w w':World} {b o:Nat} {e:Evt} {kv:Value} (h:EvC w b o e kv) (hb:Bel w w'):EvC w' b o e kv:=by
 have hl:b<w.heap.size:=World.block_lt_of_cell? w _ h.kind
 exact ⟨(hb.cells b _ hl).trans h.kind,(hb.cells b _ hl).trans h.node,(hb.cells b _ hl).trans h.dest,(hb.cells b _ hl).trans h.spot,(hb.cells b _ hl).trans h.i0,(hb.cells b _ hl).trans h.i1,(hb.cells b _ hl).trans h.i2,(hb.cells b _ hl).trans h.i3,(hb.cells b _ hl).trans h.i4,(hb.cells b _ hl).trans h.i5,(hb.cells b _ hl).trans h.i6,(hb.cells b _ hl).trans h.i7⟩
end Go.Proofs.YtklbmkaomojciaaGreat
