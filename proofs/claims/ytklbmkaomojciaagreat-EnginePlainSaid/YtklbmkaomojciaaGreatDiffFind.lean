/- A tree as lists of kids: of any items whose nodes are unlike. Plain laws. -/
import Derived.Test.YtklbmkaomojciaaGreatDiffMath
namespace Go.Proofs.YtklbmkaomojciaaGreat
mutual
def rowsI:It->List (Int×List Int)
 | .mk h k=>(h.node,k.map (fun x=>x.h.node))::rowsK k
def rowsK:List It->List (Int×List Int)
 | []=>[]
 | x::l=>rowsI x++rowsK l
end
mutual
def headsI:It->List Hd
 | .mk h k=>h::headsL k
def headsL:List It->List Hd
 | []=>[]
 | x::l=>headsI x++headsL l
end
section
variable {l:List It}
mutual
def NestI (t:Fl):It->Prop
 | .mk h k=>t.head h.node=h/\t.kids h.node=k.map (fun x=>x.h.node)/\NestK t k
def NestK (t:Fl):List It->Prop
 | []=>True
 | x::l=>NestI t x/\NestK t l
end
end
end Go.Proofs.YtklbmkaomojciaaGreat
namespace Go.Proofs.YtklbmkaomojciaaGreat
open Go.RowKit
section
variable {t:Fl}
end
def rdF (t:Fl) (V:Int->Value):World->List Value->Int->Prop:=fun _ cs n=>cs=qZp (t.head n) (V n)
def qB9 (B:Nat->Prop) (w:World) (V:Int->Value) (t:Fl):Prop:=∀ n,(n = -1∨Has t n)->qQb 8 (rdF t V) B w (V n) (t.kids n)
def qJa (box:Addr) (t:Fl) (V:Int->Value) (n:Int):Addr:=
 if n = -1 then box else match V (t.par n) with
  | .slice (some a) _ _=>⟨a.block,a.off+(t.kids (t.par n)).idxOf n*8+7,none⟩
  | _=>box
theorem qB9.agree {B:Nat->Prop} {w w':World} {V:Int->Value} {t:Fl} (h:qB9 B w V t) (ha:qQi B w w'):qB9 B w' V t:=fun n hn=>(h n hn).agree ha (fun _ _ _ hr=>hr)
structure TabC (w:World) (b o:Nat) (hd:Hd) (kv:Value):Prop where
 node:w.cell? ⟨b,o,none⟩=some (.int .i64 hd.node)
 role:w.cell? ⟨b,o+1,none⟩=some (.int .i64 hd.role)
 name:w.cell? ⟨b,o+2,none⟩=some (.string ⟨hd.name.toArray⟩)
 about:w.cell? ⟨b,o+3,none⟩=some (.string ⟨hd.about.toArray⟩)
 level:w.cell? ⟨b,o+4,none⟩=some (.int .i64 hd.level)
 checked:w.cell? ⟨b,o+5,none⟩=some (.int .i64 hd.checked)
 off:w.cell? ⟨b,o+6,none⟩=some (.bool hd.off)
 kids:w.cell? ⟨b,o+7,none⟩=some kv
theorem qB9.item {B:Nat->Prop} {w:World} {V:Int->Value} {t:Fl} (H:qB9 B w V t) {n:Int} (hn:n = -1∨Has t n) (i:Nat) (hi:i<(t.kids n).length) :
 ∃ b off cap,V n=.slice (some ⟨b,off,none⟩) (t.kids n).length cap/\(t.kids n).length<=cap/\cap<=9223372036854775807/\B b/\TabC w b (off+i*8) (t.head (t.kids n)[i]) (V (t.kids n)[i]):=by
 have h:=H n hn
 obtain ⟨a,cap0,e0,e1,e2⟩:=Rf h
 obtain ⟨b,off,cap,cs,h1,h2,h3,h4,h5⟩:=qQb.elem h i hi
 rw [h1] at e0
 simp at e0
 obtain ⟨_,rfl⟩:=e0
 have h5:cs=qZp (t.head (t.kids n)[i]) (V (t.kids n)[i]):=h5
 subst h5
 exact ⟨b,off,cap,h1,e1,e2,h2,by simpa using h4 0 _ rfl,h4 1 _ rfl,h4 2 _ rfl,h4 3 _ rfl,h4 4 _ rfl,h4 5 _ rfl,h4 6 _ rfl,h4 7 _ rfl⟩
theorem qDj {box:Addr} {t:Fl} {V:Int->Value} (h:Wf t) {n:Int} {i:Nat} (hi:i<(t.kids n).length) {b off:Nat} {len cap:Nat} (hV:V n=.slice (some ⟨b,off,none⟩) len cap):qJa box t V (t.kids n)[i]=⟨b,off+i*8+7,none⟩:=by
 have hk:=Zl hi
 obtain ⟨h1,h2⟩:=h.has_kid hk
 have h0:=Has.ge h h1
 unfold qJa
 rw [if_neg (by omega),h2,hV]
 have hlt:(t.kids n).idxOf (t.kids n)[i]<(t.kids n).length:=List.idxOf_lt_length_of_mem hk
 have:(t.kids n).idxOf (t.kids n)[i]=i:=(List.getElem_inj (h.alone.once n)).1 (List.getElem_idxOf hlt)
 simp only [this]
theorem qB9.cell {B:Nat->Prop} {w:World} {V:Int->Value} {t:Fl} (H:qB9 B w V t) (h:Wf t) {box:Addr} (hc:w.cell? box=some (V (-1))) {n:Int} (hn:n = -1∨Has t n):w.cell? (qJa box t V n)=some (V n):=by
 rcases hn with rfl | hn
 ·unfold qJa
  rw [if_pos rfl]
  exact hc
 ·have hp:t.par n = -1∨Has t (t.par n):=h.kids_has (by intro e;unfold Has at hn;rw [e] at hn;simp at hn)
  have hlt:(t.kids (t.par n)).idxOf n<(t.kids (t.par n)).length:=List.idxOf_lt_length_of_mem hn
  have hget:(t.kids (t.par n))[(t.kids (t.par n)).idxOf n]=n:=List.getElem_idxOf hlt
  obtain ⟨b,off,cap,e1,_,_,_,hI⟩:=H.item hp _ hlt
  have hck:=qDj (box:=box) (V:=V) h hlt e1
  rw [hget] at hck hI
  rw [hck]
  exact hI.kids
end Go.Proofs.YtklbmkaomojciaaGreat
