/- A tree of the call's own, list by list. -/
import Derived.Test.YtklbmkaomojciaaGreatSlIts
import Derived.Test.YtklbmkaomojciaaGreatDiffFind
namespace Go.Proofs.YtklbmkaomojciaaGreat
open Go.RowKit
structure Sv where
 a:Option Addr:=none
 n:Nat:=0
 c:Nat:=0
def Sv.v (s:Sv):Value:=.slice s.a s.n s.c
def icOf (t:Fl) (S:Int->Sv) (k:Int):Ic:=⟨t.head k,(S k).a,(S k).n,(S k).c⟩
def qQ5 (base:Nat) (w:World) (S:Int->Sv) (lab:Nat->Int) (t:Fl):Prop:=
 ∀ n,(n = -1∨Has t n)->qQg 8 rdIc base 111 w (S n).v ((t.kids n).map (icOf t S))/\∀ b,(S n).v.ownBlock=some b->lab b=n
theorem qQg.conv {α β:Type} {sz:Nat} {rd:World->List Value->α->Prop} {rd':World->List Value->β->Prop} {base:Nat} {e:TypeId} {w:World} {v:Value} {l:List α} {l':List β} (h:qQg sz rd base e w v l) (hl:l.length=l'.length)
 (hr:∀ i (h1:i<l.length) (h2:i<l'.length) cs,rd w cs l[i]->rd' w cs l'[i]):qQg sz rd' base e w v l':=by
 obtain ⟨xss,h1,h2,h3⟩:=h
 exact ⟨xss,h1.trans hl,fun i hi hi'=>⟨(h2 i (by omega) hi').1,hr i (by omega) hi _ (h2 i (by omega) hi').2⟩,hl▸h3⟩
theorem qQ5.rd {base:Nat} {w:World} {S:Int->Sv} {lab:Nat->Int} {t:Fl} (h:qQ5 base w S lab t):qB9 (fun b=>base<=b/\b<w.heap.size) w (fun n=>(S n).v) t:=fun n hn=>by
 refine (h n hn).1.row.conv (by simp) (fun i h1 h2 b cs _ hb hr=>⟨⟨hb.1,hb.2.1⟩,?_⟩)
 rw [List.getElem_map] at hr
 exact hr
def zZ3 (base:Nat) (w:World) (hd:Int->Hd) (S:Int->Sv) (lab:Nat->Int) (B:List Nat) (R:List (Int×List Int)):Prop:=
 ∀ r∈R,qQg 8 rdIc base 111 w (S r.1).v (r.2.map (fun k=>(⟨hd k,(S k).a,(S k).n,(S k).c⟩:Ic)))/\∀ b,(S r.1).v.ownBlock=some b->lab b=r.1/\b∈B
theorem zZ3.swap {base:Nat} {w:World} {hd:Int->Hd} {S S':Int->Sv} {lab lab':Nat->Int} {B B':List Nat} {R:List (Int×List Int)} (h:zZ3 base w hd S lab B R) (hS:∀ r∈R,S' r.1=S r.1/\∀ k∈r.2,S' k=S k) (hl:∀ b∈B,lab' b=lab b) (hB:∀ b∈B,b∈B'):zZ3 base w hd S' lab' B' R:=fun r hr=>by
 obtain ⟨h1,h2⟩:=h r hr
 obtain ⟨s1,s2⟩:=hS r hr
 rw [s1]
 have e:r.2.map (fun k=>(⟨hd k,(S' k).a,(S' k).n,(S' k).c⟩:Ic))=r.2.map (fun k=>(⟨hd k,(S k).a,(S k).n,(S k).c⟩:Ic)):=List.map_congr_left (fun k hk=>by rw [s2 k hk])
 rw [e]
 exact ⟨h1,fun b hb=>⟨(hl b (h2 b hb).2).trans (h2 b hb).1,hB b (h2 b hb).2⟩⟩
end Go.Proofs.YtklbmkaomojciaaGreat
