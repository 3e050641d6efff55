/- Changes of a document by themselves: the document's answer; what their walks share. (Printed by wip/tools/refchange.py.) -/
import Derived.Test.YtklbmkaomojciaaGreatRefMake
import Derived.Test.YtklbmkaomojciaaGreatRefWords
import Derived.Deep.RegionHeld
set_option maxRecDepth 100000
namespace Go.Proofs.YtklbmkaomojciaaGreat
open Go.RowKit
def chgV (x:Chg):Value:=.agg #[.int .i64 x.kind,.int .i64 x.node,.int .i64 x.dest,.int .i64 x.before,.string ⟨x.name.toArray⟩,.string ⟨x.value.toArray⟩]
theorem qQt (e:Int) (w:World):Calls Tryz.prog 110 #[.int .i64 e] w (Rv (.tuple #[.slice none 0 0,.int .i64 0,.int .i64 e]) w):=by
 go_enter Tryz.func110,Tryz.ntmps110
 go_wp2
 go_ret3
 exact ⟨rfl,rfl⟩
abbrev qQc (w:World) (r:Int×Int×Dc):Ending->World->Prop:=Rn w fun w' y=>∃ u,y=.tuple #[u,.int .i64 r.2.1,.int .i64 r.1]/\qQq w'.heap.size w' u r.2.2
theorem qQc.no {w w':World} {r:Int×Int×Dc} {e:Int} (h:r=(e,0,[])) (hb:Bel w w'):qQc w r (.returned (.tuple #[.slice none 0 0,.int .i64 0,.int .i64 e])) w':=by
 subst h;exact ⟨hb,_,rfl,_,rfl,qQb.nil⟩
theorem qQc.yes {w w':World} {r:Int×Int×Dc} {u:Value} {n:Int} {d:Dc} (h:r=(0,n,d)) (hb:Bel w w') (hd:qQq w'.heap.size w' u d):qQc w r (.returned (.tuple #[u,.int .i64 n,.int .i64 0])) w':=by
 subst h;exact ⟨hb,_,rfl,_,rfl,hd⟩
theorem qQc.any {w w':World} {r:Int×Int×Dc} {u:Value} {e n:Int} {d:Dc} (h:r=(e,n,d)) (hb:Bel w w') (hd:qQq w'.heap.size w' u d):qQc w r (.returned (.tuple #[u,.int .i64 n,.int .i64 e])) w':=by
 subst h;exact ⟨hb,_,rfl,_,rfl,hd⟩
theorem qZy.up {m:Nat} {w w':World} {v:Value} {l:List Att} (h:qZy m w v l) (hb:Bel w w') (hm:m<=w.heap.size):qZy w'.heap.size w' v l:=
 (qQb.later h qQh hb hm).mono (fun _ h=>Zc h (Za hm hb.size)) (fun _ _ _ h=>h)
theorem qQ6.up {m:Nat} {w w':World} {v:Value} {l:List Int} (h:qQ6 m w v l) (hb:Bel w w') (hm:m<=w.heap.size):qQ6 w'.heap.size w' v l:=
 (qQb.later h qQd hb hm).mono (fun _ h=>Zc h (Za hm hb.size)) (fun _ _ _ h=>h)
theorem qQq.up {m:Nat} {w w':World} {v:Value} {d:Dc} (h:qQq m w v d) (hb:Bel w w') (hm:m<=w.heap.size):qQq w'.heap.size w' v d:=
 (h.later hb hm).raise (Za hm hb.size)
theorem qFi {g:Nat} {w:World} {base:Nat} {e:TypeId} {v u:Value} {l:List Att} {j:Nat} (h:qQg 2 qX4 base e w v l) (hg:g<base):qZy (w.setCell ⟨g,j,none⟩ u).heap.size (w.setCell ⟨g,j,none⟩ u) v l:=by
 rw [qQl]
 exact (qQb.agree h.row (qQi.setCell _ _ (fun h=>by have:=h.1;simp at this;omega)) (fun _ _ _ h=>h)).mono (fun _ h=>h.2.1) (fun _ _ _ h=>h)
theorem doc_set2 {m n g i j:Nat} {w:World} {v u u':Value} {d:Dc} (h:qKf (fun b=>b<m∨(n<=b/\b<w.heap.size)) w v d) (h1:m<=g) (h2:g<n) (hm:m<=w.heap.size) :
 qQq ((w.setCell ⟨g,i,none⟩ u).setCell ⟨g,j,none⟩ u').heap.size ((w.setCell ⟨g,i,none⟩ u).setCell ⟨g,j,none⟩ u') v d:=by
 rw [qQl,qQl]
 exact ((h.agree (qQi.setCell _ _ (fun h=>by simp at h;omega))).agree (qQi.setCell _ _ (fun h=>by simp at h;omega))).mono (fun b h=>by omega)
theorem Bel.drewN {a w:World} (h:Bel a w) (n:Nat):Bel a (w.drewN n):=Below.trans h (Drew.below ⟨n,rfl⟩ _)
theorem docIn_at {m n:Nat} {w:World} {v:Value} {d:Dc} (h:qKf (fun b=>b<m∨(n<=b/\b<w.heap.size)) w v d) (hm:m<=w.heap.size):qQq w.heap.size w v d:=h.mono (fun b h=>by omega)
end Go.Proofs.YtklbmkaomojciaaGreat
