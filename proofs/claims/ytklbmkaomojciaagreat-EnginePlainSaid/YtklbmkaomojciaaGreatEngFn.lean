/- engine's zQ1 functions: walked. -/
import Derived.Test.YtklbmkaomojciaaGreatPlainMath
namespace Go.Proofs.YtklbmkaomojciaaGreat
open Go.RowKit
structure Me where
 node:Int
 name:Txt
 about:Txt
 uses:List Int
def meCells (m:Me) (v:Value):List Value:=[.int .i64 m.node,.string ⟨m.name.toArray⟩,.string ⟨m.about.toArray⟩,v]
def rdMe (B:Nat->Prop):World->List Value->Me->Prop:=fun w cs m=>∃ v,cs=meCells m v/\qQb 1 qQ3 B w v m.uses
abbrev qXk (B:Nat->Prop) (w:World) (v:Value) (l:List Me):Prop:=qQb 4 (rdMe B) B w v l
theorem rdMe.agree {B:Nat->Prop} {w w':World} (ha:qQi B w w') {cs:List Value} {m:Me} (h:rdMe B w cs m):rdMe B w' cs m:=by
 obtain ⟨v,h1,h2⟩:=h
 exact ⟨v,h1,h2.agree ha (fun _ _ _ h=>h)⟩
theorem rdMe.mono {B C:Nat->Prop} {w:World} (hc:∀ b,B b->C b) {cs:List Value} {m:Me} (h:rdMe B w cs m):rdMe C w cs m:=by
 obtain ⟨v,h1,h2⟩:=h
 exact ⟨v,h1,h2.mono hc (fun _ _ _ h=>h)⟩
theorem qXk.agree {B:Nat->Prop} {w w':World} {v:Value} {l:List Me} (h:qXk B w v l) (ha:qQi B w w'):qXk B w' v l:=qQb.agree h ha (fun _ _ _ hr=>hr.agree ha)
theorem qXk.mono {B C:Nat->Prop} {w:World} {v:Value} {l:List Me} (h:qXk B w v l) (hc:∀ b,B b->C b):qXk C w v l:=qQb.mono h hc (fun _ _ _ hr=>hr.mono hc)
theorem qXk.later {n m:Nat} {w w':World} {v:Value} {l:List Me} (h:qXk (·<n) w v l) (hb:Below m w w') (hn:n<=m):qXk (·<n) w' v l:=
 h.agree (qQi.mono (qQi.below hb) (fun _ hb=>Zc hb hn))
theorem qXk.up {n:Nat} {w w':World} {v:Value} {l:List Me} (h:qXk (·<n) w v l) (hb:Bel w w') (hn:n<=w.heap.size):qXk (·<w'.heap.size) w' v l:=
 (h.later hb hn).mono (fun _ h=>Zc (Zc h hn) hb.size)
structure MeC (B:Nat->Prop) (w:World) (b o:Nat) (m:Me) (uv:Value):Prop where
 node:w.cell? ⟨b,o,none⟩=some (.int .i64 m.node)
 name:w.cell? ⟨b,o+1,none⟩=some (.string ⟨m.name.toArray⟩)
 about:w.cell? ⟨b,o+2,none⟩=some (.string ⟨m.about.toArray⟩)
 uses:w.cell? ⟨b,o+3,none⟩=some uv
 usesAt:qQb 1 qQ3 B w uv m.uses
theorem qXk.item {B:Nat->Prop} {w:World} {v:Value} {l:List Me} (h:qXk B w v l) (i:Nat) (hi:i<l.length) :
 ∃ b off cap uv,v=.slice (some ⟨b,off,none⟩) l.length cap/\l.length<=cap/\cap<=9223372036854775807/\B b/\MeC B w b (off+i*4) l[i] uv:=by
 obtain ⟨a,cap0,e0,e1,e2⟩:=Rf h
 obtain ⟨b,off,cap,cs,h1,h2,h3,h4,uv,rfl,h6⟩:=qQb.elem h i hi
 rw [h1] at e0
 simp at e0
 obtain ⟨_,rfl⟩:=e0
 exact ⟨b,off,cap,uv,h1,e1,e2,h2,by simpa using h4 0 _ rfl,h4 1 _ rfl,h4 2 _ rfl,h4 3 _ rfl,h6⟩
end Go.Proofs.YtklbmkaomojciaaGreat
