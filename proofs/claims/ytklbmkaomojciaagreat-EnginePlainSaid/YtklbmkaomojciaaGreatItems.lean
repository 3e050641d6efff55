/- Items: trees as plain lists, how they lie in memory, and the functions that only read them. -/
import Derived.Test.YtklbmkaomojciaaGreatRefDoc
import Derived.Test.YtklbmkaomojciaaGreatStepCall
import Derived.Deep.Cut
namespace Go.Proofs.YtklbmkaomojciaaGreat
structure Hd where
 node:Int:=0
 role:Int:=0
 name:Txt:=[]
 about:Txt:=[]
 level:Int:=0
 checked:Int:=0
 off:Bool:=false
 deriving DecidableEq
inductive It where
 | mk (h:Hd) (kids:List It)
def It.h:It->Hd
 | .mk h _=>h
def It.kids:It->List It
 | .mk _ k=>k
theorem It.eta (x:It):It.mk x.h x.kids=x:=by cases x;rfl
mutual
def nodesI:It->List Int
 | .mk h k=>h.node::nodesL k
def nodesL:List It->List Int
 | []=>[]
 | x::l=>nodesI x++nodesL l
end
end Go.Proofs.YtklbmkaomojciaaGreat
namespace Go.Proofs.YtklbmkaomojciaaGreat
open Go.RowKit
def qZp (h:Hd) (v:Value):List Value:=[.int .i64 h.node,.int .i64 h.role,.string ⟨h.name.toArray⟩,.string ⟨h.about.toArray⟩,.int .i64 h.level,.int .i64 h.checked,.bool h.off,v]
def rdIt (B:Nat->Prop):Nat->World->List Value->It->Prop
 | 0,_,_,_=>False
 | k+1,w,cs,x=>∃ v,cs=qZp x.h v/\qQb 8 (rdIt B k) B w v x.kids
abbrev ItsK (B:Nat->Prop) (k:Nat):World->Value->List It->Prop:=qQb 8 (rdIt B k) B
theorem rdIt.agree {B:Nat->Prop} {w w':World} (ha:qQi B w w'):∀ {k:Nat} {cs:List Value} {x:It},rdIt B k w cs x->rdIt B k w' cs x:=by
 intro k
 induction k with
 | zero=>intro cs x h;exact h.elim
 | succ k ih=>
   intro cs x h
   obtain ⟨v,h1,h2⟩:=h
   exact ⟨v,h1,h2.agree ha (fun cs x _ hr=>ih hr)⟩
theorem rdIt.mono {B C:Nat->Prop} {w:World} (hc:∀ b,B b->C b):∀ {k:Nat} {cs:List Value} {x:It},rdIt B k w cs x->rdIt C k w cs x:=by
 intro k
 induction k with
 | zero=>intro cs x h;exact h.elim
 | succ k ih=>
   intro cs x h
   obtain ⟨v,h1,h2⟩:=h
   exact ⟨v,h1,h2.mono hc (fun cs x _ hr=>ih hr)⟩
theorem ItsK.agree {B:Nat->Prop} {k:Nat} {w w':World} {v:Value} {l:List It} (h:ItsK B k w v l) (ha:qQi B w w'):ItsK B k w' v l:=qQb.agree h ha (fun _ _ _ hr=>hr.agree ha)
theorem ItsK.mono {B C:Nat->Prop} {k:Nat} {w:World} {v:Value} {l:List It} (h:ItsK B k w v l) (hc:∀ b,B b->C b):ItsK C k w v l:=qQb.mono h hc (fun _ _ _ hr=>hr.mono hc)
theorem rdIt.more {B:Nat->Prop} {w:World}:∀ {k:Nat} {cs:List Value} {x:It},rdIt B k w cs x->rdIt B (k+1) w cs x:=by
 intro k
 induction k with
 | zero=>intro cs x h;exact h.elim
 | succ k ih=>
   intro cs x h
   obtain ⟨v,h1,h2⟩:=h
   exact ⟨v,h1,h2.mono (fun _ h=>h) (fun cs x _ hr=>ih hr)⟩
theorem rdIt.le {B:Nat->Prop} {w:World} {k k':Nat} (hk:k<=k') {cs:List Value} {x:It} (h:rdIt B k w cs x):rdIt B k' w cs x:=by
 induction hk with
 | refl=>exact h
 | step _ ih=>exact ih.more
theorem ItsK.le {B:Nat->Prop} {w:World} {k k':Nat} (hk:k<=k') {v:Value} {l:List It} (h:ItsK B k w v l):ItsK B k' w v l:=qQb.mono h (fun _ h=>h) (fun _ _ _ hr=>hr.le hk)
theorem ItsK.later {n m k:Nat} {w w':World} {v:Value} {l:List It} (h:ItsK (·<n) k w v l) (hb:Below m w w') (hn:n<=m):ItsK (·<n) k w' v l:=
 h.agree (qQi.mono (qQi.below hb) (fun _ hb=>Zc hb hn))
theorem ItsK.raise {n m k:Nat} {w:World} {v:Value} {l:List It} (h:ItsK (·<n) k w v l) (hn:n<=m):ItsK (·<m) k w v l:=h.mono (fun _ h=>Zc h hn)
theorem ItsK.up {m k:Nat} {w w':World} {v:Value} {l:List It} (h:ItsK (·<m) k w v l) (hb:Bel w w') (hm:m<=w.heap.size):ItsK (·<w'.heap.size) k w' v l:=(h.later hb hm).raise (Za hm hb.size)
structure ItC (B:Nat->Prop) (k:Nat) (w:World) (b o:Nat) (x:It) (kv:Value):Prop where
 node:w.cell? ⟨b,o,none⟩=some (.int .i64 x.h.node)
 role:w.cell? ⟨b,o+1,none⟩=some (.int .i64 x.h.role)
 name:w.cell? ⟨b,o+2,none⟩=some (.string ⟨x.h.name.toArray⟩)
 about:w.cell? ⟨b,o+3,none⟩=some (.string ⟨x.h.about.toArray⟩)
 level:w.cell? ⟨b,o+4,none⟩=some (.int .i64 x.h.level)
 checked:w.cell? ⟨b,o+5,none⟩=some (.int .i64 x.h.checked)
 off:w.cell? ⟨b,o+6,none⟩=some (.bool x.h.off)
 kids:w.cell? ⟨b,o+7,none⟩=some kv
 kidsAt:ItsK B k w kv x.kids
theorem ItsK.item {B:Nat->Prop} {k:Nat} {w:World} {v:Value} {l:List It} (h:ItsK B k w v l) (i:Nat) (hi:i<l.length) :
 ∃ b off cap kv k',k=k'+1/\v=.slice (some ⟨b,off,none⟩) l.length cap/\l.length<=cap/\cap<=9223372036854775807/\B b/\ItC B k' w b (off+i*8) l[i] kv:=by
 obtain ⟨a,cap0,e0,e1,e2⟩:=Rf h
 obtain ⟨b,off,cap,cs,h1,h2,h3,h4,h5⟩:=qQb.elem h i hi
 rw [h1] at e0
 simp at e0
 obtain ⟨_,rfl⟩:=e0
 cases k with
 | zero=>exact h5.elim
 | succ k=>
   obtain ⟨kv,rfl,h6⟩:=h5
   exact ⟨b,off,cap,kv,k,rfl,h1,e1,e2,h2,by simpa using h4 0 _ rfl,h4 1 _ rfl,h4 2 _ rfl,h4 3 _ rfl,h4 4 _ rfl,h4 5 _ rfl,h4 6 _ rfl,h4 7 _ rfl,h6⟩
theorem qQb.conv {α β:Type} {sz:Nat} {rd:World->List Value->α->Prop} {rd':World->List Value->β->Prop} {B C:Nat->Prop} {w:World} {v:Value} {l:List α} {l':List β} (h:qQb sz rd B w v l) (hl:l.length=l'.length)
 (hr:∀ i (h1:i<l.length) (h2:i<l'.length) b cs,v.ownBlock=some b->B b->rd w cs l[i]->C b/\rd' w cs l'[i]):qQb sz rd' C w v l':=by
 rcases h with ⟨rfl,rfl⟩ | ⟨b,off,cap,h1,h2,h3,h4⟩
 ·left
  refine ⟨rfl,?_⟩
  cases l' with
  | nil=>rfl
  | cons=>simp at hl
 ·refine .inr ⟨b,off,cap,by rw [h1,hl],by omega,h3,fun i hi=>?_⟩
  obtain ⟨g1,cs,g2,g3,g4⟩:=h4 i (by omega)
  obtain ⟨r1,r2⟩:=hr i (by omega) hi b cs (by rw [h1];rfl) g1 g4
  exact ⟨r1,cs,g2,g3,r2⟩
def rdO (base:Nat):Nat->World->List Value->It×List Nat->Prop
 | 0,_,_,_=>False
 | k+1,w,cs,y=>∃ (v:Value) (Ss:List (List Nat)),cs=qZp y.1.h v/\Ss.length=y.1.kids.length/\qQg 8 (rdO base k) base 111 w v (y.1.kids.zip Ss)/\y.2=v.ownBlock.toList++Ss.flatten/\y.2.Nodup
def OwnT (base k:Nat) (w:World) (v:Value) (l:List It) (S:List Nat):Prop:=
 ∃ Ss:List (List Nat),Ss.length=l.length/\qQg 8 (rdO base k) base 111 w v (l.zip Ss)/\S=v.ownBlock.toList++Ss.flatten/\S.Nodup
theorem zip_mem {l:List It} {Ss:List (List Nat)} {y:It×List Nat} (h:y∈l.zip Ss):y.2∈Ss:=(List.of_mem_zip (a:=y.1) (b:=y.2) h).2
theorem rdO.lt {base:Nat} {w:World}:∀ {k:Nat} {cs:List Value} {y:It×List Nat},rdO base k w cs y->∀ b∈y.2,base<=b/\b<w.heap.size:=by
 intro k
 induction k with
 | zero=>intro cs y h;exact h.elim
 | succ k ih=>
   intro cs y h b hb
   obtain ⟨v,Ss,_,hl,hO,hS,_⟩:=h
   rw [hS] at hb
   rcases List.mem_append.1 hb with hb | hb
   ·exact hO.lt b (by simpa using hb)
   ·obtain ⟨S,hS1,hS2⟩:=List.mem_flatten.1 hb
    obtain ⟨i,hi,rfl⟩:=List.getElem_of_mem hS1
    obtain ⟨xss,g1,g2,g3⟩:=hO
    have hz:i<(y.1.kids.zip Ss).length:=by simp;omega
    have:=(g2 i hz (by omega)).2
    refine ih this b ?_
    rw [List.getElem_zip]
    exact hS2
theorem OwnT.lt {base k:Nat} {w:World} {v:Value} {l:List It} {S:List Nat} (h:OwnT base k w v l S):∀ b∈S,base<=b/\b<w.heap.size:=by
 obtain ⟨Ss,h1,h2,h3,h4⟩:=h
 exact rdO.lt (k:=k+1) (cs:=_) (y:=(It.mk {} l,S)) ⟨v,Ss,rfl,h1,h2,h3,h4⟩
theorem qQg.redo {α:Type} {sz:Nat} {rd rd':World->List Value->α->Prop} {base:Nat} {e:TypeId} {w w':World} {v:Value} {l:List α} (h:qQg sz rd base e w v l) (ha:∀ b,v.ownBlock=some b->w'.heap[b]?=w.heap[b]?) (hr:∀ cs x,x∈l->rd w cs x->rd' w' cs x):qQg sz rd' base e w' v l:=by
 obtain ⟨xss,h1,h2,h3⟩:=h
 exact ⟨xss,h1,fun i hi hi'=>⟨(h2 i hi hi').1,hr _ _ (Zl hi) (h2 i hi hi').2⟩,qJv h3 ha⟩
theorem rdO.agree {base:Nat} {w w':World}:∀ {k:Nat} {cs:List Value} {y:It×List Nat},rdO base k w cs y->(∀ b∈y.2,w'.heap[b]?=w.heap[b]?)->rdO base k w' cs y:=by
 intro k
 induction k with
 | zero=>intro cs y h;exact h.elim
 | succ k ih=>
   intro cs y h ha
   obtain ⟨v,Ss,h0,hl,hO,hS,hN⟩:=h
   refine ⟨v,Ss,h0,hl,hO.redo (fun b hb=>ha b (by rw [hS,hb];simp)) (fun cs x hx hr=>ih hr (fun b hb=>ha b ?_)),hS,hN⟩
   rw [hS]
   exact List.mem_append_right _ (List.mem_flatten.2 ⟨_,zip_mem hx,hb⟩)
theorem OwnT.agree {base k:Nat} {w w':World} {v:Value} {l:List It} {S:List Nat} (h:OwnT base k w v l S) (ha:∀ b∈S,w'.heap[b]?=w.heap[b]?):OwnT base k w' v l S:=by
 obtain ⟨Ss,h1,h2,h3,h4⟩:=h
 obtain ⟨v',Ss',e,g1,g2,g3,g4⟩:=rdO.agree (k:=k+1) (cs:=qZp {} v) (y:=(It.mk {} l,S)) ⟨v,Ss,rfl,h1,h2,h3,h4⟩ ha
 have:v=v':=by unfold qZp at e;simp at e;exact e.2.2.2.2.2.2.2
 subst this
 exact ⟨Ss',g1,g2,g3,g4⟩
theorem OwnT.below {base k:Nat} {w w':World} {v:Value} {l:List It} {S:List Nat} (h:OwnT base k w v l S) (hb:Bel w w'):OwnT base k w' v l S:=
 h.agree (fun b hb'=>hb.block b (h.lt b hb').2)
theorem rdO.its {base:Nat} {w:World}:∀ {k:Nat} {cs:List Value} {y:It×List Nat},rdO base k w cs y->rdIt (fun b=>b∈y.2) k w cs y.1:=by
 intro k
 induction k with
 | zero=>intro cs y h;exact h.elim
 | succ k ih=>
   intro cs y h
   obtain ⟨v,Ss,h0,hl,hO,hS,hN⟩:=h
   refine ⟨v,h0,hO.row.conv (by simp;omega) (fun i h1 h2 b cs hv hb hr=>?_)⟩
   refine ⟨by rw [hS,hv];simp,?_⟩
   have:=ih hr
   rw [List.getElem_zip] at this
   refine this.mono (fun b hb=>?_)
   rw [hS]
   exact List.mem_append_right _ (List.mem_flatten.2 ⟨_,Zl _,hb⟩)
theorem OwnT.its {base k:Nat} {w:World} {v:Value} {l:List It} {S:List Nat} (h:OwnT base k w v l S):ItsK (·∈S) k w v l:=by
 obtain ⟨Ss,h1,h2,h3,h4⟩:=h
 obtain ⟨v',e,g⟩:=rdO.its (k:=k+1) (cs:=qZp {} v) (y:=(It.mk {} l,S)) ⟨v,Ss,rfl,h1,h2,h3,h4⟩
 have:v=v':=by unfold qZp at e;simp at e;exact e.2.2.2.2.2.2.2
 subst this
 exact g
theorem OwnT.read {base k:Nat} {w:World} {v:Value} {l:List It} {S:List Nat} (h:OwnT base k w v l S):ItsK (·<w.heap.size) k w v l:=h.its.mono (fun b hb=>(h.lt b hb).2)
end Go.Proofs.YtklbmkaomojciaaGreat
