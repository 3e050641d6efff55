/- The walks of the rest of chapter 4: Find, Tag, Has, and the document's answer. -/
import Derived.Test.YtklbmkaomojciaaGreatDiffLone
import Derived.Test.YtklbmkaomojciaaGreatRefWords
namespace Go.Proofs.YtklbmkaomojciaaGreat
open Go.RowKit
structure KeyLaw (P:Program) (T:TypeId) {κ:Type} [DecidableEq κ] (enc:κ->Value):Prop where
 desc:∃ d,P.underlying T=some d/\(∀ a b,Instr.sameNow d (enc a) (enc b)=some (decide (a=b)))
 check:∀ k empty w,(Instr.checkKey empty 10000 T (enc k)).run P w=.ok () w
 same:∀ k,Instr.sameBits 10000 (enc k) (enc k)=true
section
variable {κ:Type} [DecidableEq κ]
def fnd (k:κ):List (κ×Value)->Nat->Option (Nat×Value)
 | [],_=>none
 | p::r,i=>if k=p.1 then some (i,p.2) else fnd k r (i+1)
def zZw (enc:κ->Value) (w:World) (r:Nat) (m:κ->Option Value):Prop:=
 ∃ (es:Array MapEntry) (clock:Nat) (kvs:List (κ×Value)),w.heap[r]?=some (.map es clock)/\es.toList.map (fun e=>(e.key,e.val))=kvs.map (fun p=>(enc p.1,p.2))/\∀ k,m k=(fnd k kvs 0).map (·.2)
theorem zZw.lt {enc:κ->Value} {w:World} {r:Nat} {m:κ->Option Value} (h:zZw enc w r m):r<w.heap.size:=by
 obtain ⟨es,clock,kvs,h1,_⟩:=h
 exact (Array.getElem?_eq_some_iff.1 h1).1
theorem zZw.agree {enc:κ->Value} {w w':World} {r:Nat} {m:κ->Option Value} (h:zZw enc w r m) (ha:w'.heap[r]?=w.heap[r]?):zZw enc w' r m:=by
 obtain ⟨es,clock,kvs,h1,h2⟩:=h
 exact ⟨es,clock,kvs,ha.trans h1,h2⟩
def upd (m:κ->Option Value) (k:κ) (v:Value):κ->Option Value:=fun x=>if x=k then some v else m x
end
structure Keeps (n0:Nat) (wt wr:World) (o:Value):Prop where
 same:qQi (fun b=>n0<=b/\b<wt.heap.size) wt wr
 out:∀ b,o.ownBlock=some b->b<n0∨wt.heap.size<=b
 size:wt.heap.size<=wr.heap.size
theorem Keeps.later {n0:Nat} {wt wr w':World} {o:Value} (h:Keeps n0 wt wr o) (b:Bel wr w'):Keeps n0 wt w' o:=
 ⟨h.same.trans (qQi.mono (qQi.below b) (fun _ hb=>Zc hb.2 h.size)),h.out,Za h.size b.size⟩
theorem Keeps.grown {n0:Nat} {wt wr w':World} {o v:Value} (h:Keeps n0 wt wr o) (g:wr.grownBy w' o.ownBlock) (f:qJ6 wr o v):Keeps n0 wt w' v:=by
 refine ⟨h.same.trans (qQi.grown g (fun b hb=>⟨Zc hb.2 h.size,fun e=>?_⟩)),fun b hb=>?_,Za h.size g.size⟩
 ·have:=h.out b e.symm;omega
 ·rcases f with f | ⟨k,f,hk⟩
  ·rw [f] at hb;exact h.out b hb
  ·rw [f] at hb
   have:k=b:=Option.some.inj hb
   right
   have:=h.size
   omega
end Go.Proofs.YtklbmkaomojciaaGreat
