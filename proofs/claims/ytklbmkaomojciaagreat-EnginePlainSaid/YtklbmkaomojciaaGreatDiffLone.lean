/- diff's differ: an event is done, and kept: walked. -/
import Derived.Test.YtklbmkaomojciaaGreatDiffApply
import Derived.Test.YtklbmkaomojciaaGreatDetA
import Derived.Test.YtklbmkaomojciaaGreatRefPutW
import Derived.Test.YtklbmkaomojciaaGreatShelf
import Derived.Deep.RegionHeld
namespace Go.Proofs.YtklbmkaomojciaaGreat
open Go.RowKit
structure WP extends World where
 P:Nat->Prop
 wp:World
structure Dif (w0:WP) (D:Nat) (w:World) (L:List Int) (t:Fl) (evs:List Evt):Prop where
 wf:Wf t
 heads:Heads t
 fits:Fits L t
 le:w0.heap.size<=D
 bel:Bel w0.toWorld w
 st:∃ S lab ov,qQ5 w0.heap.size w S lab t/\BoxOk w ⟨D,0,none⟩ S t/\w.cell? ⟨D,1,none⟩=some ov/\w.frozen? ⟨D,1,none⟩=false/\qQg 12 rdEv w0.heap.size 126 w ov evs/\ov.ownBlock≠some D/\(∀ n,(n = -1∨Has t n)->∀ b,(S n).v.ownBlock=some b->ov.ownBlock≠some b) /\
  ∀ b,w0.P b->b≠D/\ov.ownBlock≠some b/\∀ n,(n = -1∨Has t n)->(S n).v.ownBlock≠some b
 blk:∃ C e,Blk w D C e
 kept:∀ b,w0.P b->w.heap[b]?=w0.wp.heap[b]?/\b<w.heap.size
theorem Dif.bel' {w0:WP} {w w':World} {D:Nat} {L:List Int} {t:Fl} {evs:List Evt} (h:Dif w0 D w L t evs) (hb:Bel w w'):Dif w0 D w' L t evs:=by
 obtain ⟨h1,h2,h3,h4,h5,⟨S,lab,ov,k1,k2,k3,k4,k5,k6,k7,k8⟩,⟨C,e,hk⟩,h6⟩:=h
 exact ⟨h1,h2,h3,h4,Bt h5 hb,⟨S,lab,ov,k1.bel hb,k2.bel hb,(World.cell?_of_block (a:=⟨D,1,none⟩) (hb.block _ k2.lt)).trans k3,(World.frozen?_of_block (a:=⟨D,1,none⟩) (hb.block _ k2.lt)).trans k4,k5.below hb (Zb _) (fun _ _ _ h=>h),k6,k7,k8⟩,⟨C,e,hk.bel hb⟩,fun b hP=>⟨(hb.block b (h6 b hP).2).trans (h6 b hP).1,Zc (h6 b hP).2 hb.size⟩⟩
theorem Dif.guard {w0:WP} {w1 w:World} {D:Nat} {L:List Int} {t:Fl} {evs:List Evt} (M:Dif w0 D w1 L t evs) (hb:Bel w1 w) {Q:Nat->Prop} (hQ:∀ b,Q b->w1.heap.size<=b/\b<w.heap.size):Dif ⟨w0.toWorld,(fun b=>w0.P b∨Q b),w⟩ D w L t evs:=by
 have hDl:D<w1.heap.size:=by
  obtain ⟨S,lab,ov,k1,k2,_⟩:=M.st
  exact k2.lt
 have M2:=M.bel' hb
 obtain ⟨S,lab,ov,k1,k2,k3,k4,k5,k6,k7,k8⟩:=M.st
 refine ⟨M2.wf,M2.heads,M2.fits,M2.le,M2.bel,⟨S,lab,ov,k1.bel hb,k2.bel hb,(World.cell?_of_block (a:=⟨D,1,none⟩) (hb.block _ hDl)).trans k3,(World.frozen?_of_block (a:=⟨D,1,none⟩) (hb.block _ hDl)).trans k4,k5.below hb (Zb _) (fun _ _ _ h=>h),k6,k7,fun b hP=>?_⟩,M2.blk,fun b hP=>⟨rfl,?_⟩⟩
 ·rcases hP with hP | hP
  ·exact k8 b hP
  ·have hq:=(hQ b hP).1
   exact ⟨by omega,fun e=>by have:=(k5.lt _ e).2;omega,fun n hn e=>by have:=((k1 n hn).1.lt _ e).2;omega⟩
 ·rcases hP with hP | hP
  ·exact (M2.kept b hP).2
  ·exact (hQ b hP).2
theorem qQg.ints {base:Nat} {e:TypeId} {w:World} {v:Value} {l:List Int} (h:qQg 1 qQ3 base e w v l):qQ6 w.heap.size w v l:=h.read
theorem apart {base1 base2:Nat} {e:TypeId} {w w':World} {t o:Value} {T O:List Int} (ht:qQg 1 qQ3 base1 e w' t T) (ho:qQg 1 qQ3 base2 e w o O) (h:w.heap.size<=base1):t.ownBlock=none∨t.ownBlock≠o.ownBlock:=by
 cases h1:t.ownBlock with
 | none=>exact .inl rfl
 | some k=>
   right
   intro h2
   have:=(ht.lt k h1).1
   have:=(ho.lt k h2.symm).2
   omega
def rdClm:World->List Value->Clm->Prop:=fun _ cs c=>cs=[.int .i64 c.owner,.int .i64 c.kid]
abbrev ClmsAt (n:Nat) (w:World) (v:Value) (l:List Clm):Prop:=qQb 2 rdClm (·<n) w v l
end Go.Proofs.YtklbmkaomojciaaGreat
