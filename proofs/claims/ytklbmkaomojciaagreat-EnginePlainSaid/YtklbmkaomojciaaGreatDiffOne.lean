/- diff.one: a removal, walked. -/
import Derived.Test.YtklbmkaomojciaaGreatDiffAdd
namespace Go.Proofs.YtklbmkaomojciaaGreat
open Go.RowKit
section
variable {t:Fl}
end
structure Mid (base:Nat) (box:Addr) (w:World) (S:Int->Sv) (t:Fl) (x:Int) (W:World) (S2:Int->Sv) (lab2:Nat->Int):Prop where
 tab:qQ5 base W S2 lab2 (dropF t x)
 ext:∀ n,Reach t.kids x n->qQg 8 rdIc base 111 W (S2 n).v ((t.kids n).map (icOf t S2))/\∀ b,(S2 n).v.ownBlock=some b->lab2 b=n
 boxed:BoxOk W box S2 (dropF t x)
 apart:∀ n,(n = -1∨Has t n)->(S2 n).v.ownBlock≠some box.block
 same:∀ n,Reach t.kids x n->S2 n=S n
 os:W.os=w.os
 tape:W.tape=w.tape
 output:W.output=w.output
 size:w.heap.size<=W.heap.size
 block:∀ b,b<w.heap.size->b≠box.block->(∀ n,(n = -1∨Has t n)->(S n).v.ownBlock≠some b)->W.heap[b]?=w.heap[b]?
 rows:∀ n,(n = -1∨Has t n)->∀ b,(S2 n).v.ownBlock=some b->w.heap.size<=b∨∃ m,(m = -1∨Has t m)/\(S m).v.ownBlock=some b
 side:Side box w W
section
variable {base:Nat} {w W:World} {S S2:Int->Sv} {lab2:Nat->Int} {t:Fl} {box:Addr} {x:Int}
theorem Mid.bel {W':World} (h:Mid base box w S t x W S2 lab2) (hb:Bel W W'):Mid base box w S t x W' S2 lab2:=
 ⟨h.tab.bel hb,fun n hr=>⟨(h.ext n hr).1.agree (fun b hb'=>hb.block b ((h.ext n hr).1.lt b hb').2) (fun _ _ _ hr=>by unfold rdIc at hr ⊢;exact hr),(h.ext n hr).2⟩,h.boxed.bel hb,h.apart,h.same,hb.os.trans h.os,hb.tape.trans h.tape,hb.output.trans h.output,Za h.size hb.size,fun b a1 a2 a3=>(hb.block b (Zc a1 h.size)).trans (h.block b a1 a2 a3),h.rows,h.side.trans (Side.bel hb) h.size⟩
end
end Go.Proofs.YtklbmkaomojciaaGreat
