/- What events leave as it was: heads tell their nodes, and lists are no longer than all nodes. -/
import Derived.Test.YtklbmkaomojciaaGreatDiffOne
import Derived.BigRegion
namespace Go.Proofs.YtklbmkaomojciaaGreat
def Heads (t:Fl):Prop:=∀ n,Has t n->(t.head n).node=n
def Fits (L:List Int) (t:Fl):Prop:=∀ n,Has t n->n∈L
theorem zZm:∀ (l m:List Int),l.Nodup->(∀ x∈l,x∈m)->l.length<=m.length:=by
 intro l
 induction l with
 | nil=>intro m _ _;simp
 | cons a l ih=>
   intro m hn hs
   obtain ⟨h1,h2⟩:=List.nodup_cons.1 hn
   have ha:a∈m:=hs a (by simp)
   have:=ih (m.erase a) h2 (fun x hx=>(List.mem_erase_of_ne (fun (e:x=a)=>h1 (e▸hx))).2 (hs x (by simp [hx])))
   rw [List.length_erase_of_mem ha] at this
   have hp:=List.length_pos_of_mem ha
   simp only [Zm]
   omega
theorem qFu {t:Fl} (hw:Wf t) {x tw:Int} {i:Nat} (hx:Has t x) (hi:i<=(cutF t x tw).length) {n:Int} (hn:Has (qK5 t x tw i) n):Has t n:=by
 by_cases e:n=x
 ·rw [e];exact hx
 ·unfold Has qK5 at hn
  simp only [if_neg e] at hn
  split at hn
  ·rename_i e2
   rw [mem_insertIdx hi] at hn
   rcases hn with e3 | hn
   ·exact absurd e3 e
   ·have:=((qYc hw).1 hn).1
    unfold Has;rw [e2];exact this
  ·exact ((qYc hw).1 hn).1
theorem Goes.heads {t t':Fl} {e:Evt} (hw:Wf t) (hh:Heads t) (hG:Goes t e t'):Heads t':=by
 rcases hG with ⟨n,hd,tw,i,rfl,h1,h2,h3,h4,rfl⟩ | ⟨x,tw,i,it,rfl,h1,h2,h3,h4,rfl⟩ | ⟨x,tw,a,it,rfl,h1,rfl⟩ | ⟨x,tw,a,hd,rfl,h2,h1,rfl⟩
 ·intro m hm
  show (if m=hd.node then hd else t.head m).node=m
  split
  ·rename_i e;exact e.symm
  ·rename_i e;exact hh m (zQ4 h4 e hm)
 ·exact fun m hm=>hh m (qFu hw h1 h4 hm)
 ·exact fun m hm=>hh m (qF4 hw hm)
 ·intro m hm
  show (if m=x then hd else t.head m).node=m
  split
  ·rename_i e;rw [h2,e]
  ·exact hh m hm
theorem Goes.fits {L:List Int} {t t':Fl} {e:Evt} (hw:Wf t) (hf:Fits L t) (he:e.kind=2->e.item.h.node∈L) (hG:Goes t e t'):Fits L t':=by
 rcases hG with ⟨n,hd,tw,i,rfl,h1,h2,h3,h4,rfl⟩ | ⟨x,tw,i,it,rfl,h1,h2,h3,h4,rfl⟩ | ⟨x,tw,a,it,rfl,h1,rfl⟩ | ⟨x,tw,a,hd,rfl,h2,h1,rfl⟩
 ·intro m hm
  by_cases e:m=hd.node
  ·rw [e];exact he rfl
  ·exact hf m (zQ4 h4 e hm)
 ·exact fun m hm=>hf m (qFu hw h1 h4 hm)
 ·exact fun m hm=>hf m (qF4 hw hm)
 ·exact fun m hm=>hf m hm
theorem Fits.len {L:List Int} {t:Fl} (hf:Fits L t) (hw:Wf t) (n:Int):(t.kids n).length<=L.length:=
 zZm _ _ (hw.alone.once n) (fun k hk=>hf k (hw.has_kid hk).1)
end Go.Proofs.YtklbmkaomojciaaGreat
namespace Go.Proofs.YtklbmkaomojciaaGreat
open Go.RowKit
def evCells (e:Evt):List Value:=[.int .i64 e.kind,.int .i64 e.node,.int .i64 e.dest,.int .i64 e.spot]++qZp e.item.h (.slice none 0 0)
def rdEv:World->List Value->Evt->Prop:=fun _ cs e=>cs=evCells e
theorem EvC.of {w:World} {b o:Nat} {e:Evt} {cs:List Value} (h:Cells w b o cs) (hr:rdEv w cs e):EvC w b o e (.slice none 0 0):=by
 unfold rdEv at hr
 subst hr
 exact ⟨by simpa using h 0 _ rfl,h 1 _ rfl,h 2 _ rfl,h 3 _ rfl,h 4 _ rfl,h 5 _ rfl,h 6 _ rfl,h 7 _ rfl,h 8 _ rfl,h 9 _ rfl,h 10 _ rfl,h 11 _ rfl⟩
theorem GoesL.head {t t':Fl} {e:Evt} {es:List Evt} (h:GoesL t (e::es) t'):∃ t1,Goes t e t1/\GoesL t1 es t':=by
 cases h with
 | cons g r=>exact ⟨_,g,r⟩
theorem Kept.bel {base:Nat} {w w':World} {box:Addr} {S S':Int->Sv} {lab:Nat->Int} {t t':Fl} (h:Kept w w' box S S' t t') (hT:qQ5 base w S lab t) (hb:base<=box.block) {w0:World} (h0:Bel w0 w) (hbase:w0.heap.size<=base):Bel w0 w':=
 ⟨h.os.trans h0.os,h.tape.trans h0.tape,h.output.trans h0.output,Za h0.size h.size,fun b hb'=>(h.block b (Zc hb' h0.size) (by omega) (fun n hn e=>by
  have:=(hT.lt hn e).1
  omega)).trans (h0.block b hb')⟩
structure Mids (base:Nat) (w0 wr:World) (box:Addr) (L:List Int) (es:List Evt) (t':Fl) (i:Nat):Prop where
 le:i<=es.length
 bel:Bel w0 wr
 st:∃ t1 S lab,GoesL t1 (es.drop i) t'/\Wf t1/\Heads t1/\Fits L t1/\qQ5 base wr S lab t1/\BoxOk wr box S t1
end Go.Proofs.YtklbmkaomojciaaGreat
