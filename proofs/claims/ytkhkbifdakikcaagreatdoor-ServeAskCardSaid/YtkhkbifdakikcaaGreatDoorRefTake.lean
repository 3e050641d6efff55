/- The document's answer about documents: walks. -/
import Derived.Test.YtkhkbifdakikcaaGreatDoorMem
import Derived.Test.YtkhkbifdakikcaaGreatDoorPlains
import Derived.Test.YtkhkbifdakikcaaGreatDoorProg
import Derived.WalkLawsBesides
import Derived.WalkSpells
import Derived.BigQuiet
import Derived.RegionTactic
import Derived.Deep.RegionWith
import Derived.Deep.Cut
import Derived.Deep.DeepCutAuto
namespace Go.Proofs.YtkhkbifdakikcaaGreatDoor
open Go.RowKit
variable {d:Dc} {Q:Exit->Act->World->Prop} {p:Int->Bool} {l:List Int} {cs:List Value} {b base cap j m n o sz:Nat} {B:Nat->Prop} {x:Nd} {α:Type} {v:Value} {W a:World}
def qXc:World->List Value->Att->Prop:=fun _ cs a=>cs=[.string ⟨a.name.toArray⟩,.string ⟨a.value.toArray⟩]
theorem qZg:qHo qXc:=fun _ _ _ _ h=>h
abbrev zQb (n:Nat) (w:World) (v:Value) (l:List Att):Prop:=qQa 2 qXc (·<n) w v l
abbrev qKn (n:Nat) (w:World) (v:Value) (l:List Int):Prop:=qQa 1 qQf (·<n) w v l
def qDj (B:Nat->Prop):World->List Value->Nd->Prop:=fun w cs x=>∃ av kv sv,
 cs=[.bool x.live,.string ⟨x.tag.toArray⟩,.string ⟨x.text.toArray⟩,av,.int .i64 x.up,kv,.bool x.hasS,sv,.bool x.inS]/\qQa 2 qXc B w av x.attrs/\qQa 1 qQf B w kv x.kids/\qQa 1 qQf B w sv x.shadow
abbrev rdNd (n:Nat):World->List Value->Nd->Prop:=qDj (·<n)
def qKc (B:Nat->Prop) (w:World) (v:Value) (d:Dc):Prop:=qQa 9 (qDj B) B w v d
theorem qDj.agree {w w':World} (h:qDj B w cs x) (ha:qZt B w w'):qDj B w' cs x:=by
 obtain ⟨A,k,s,H,c,f,i⟩:=h;exact ⟨A,k,s,H,c.agree ha (fun _ _ _ h=>h),f.agree ha (fun _ _ _ h=>h),i.agree ha (fun _ _ _ h=>h)⟩
theorem qDj.mono {C:Nat->Prop} {w:World} (h:qDj B w cs x) (H:∀ b,B b->C b):qDj C w cs x:=by
 obtain ⟨A,K,s,c,f,i,k⟩:=h;exact ⟨A,K,s,c,f.mono H (fun _ _ _ h=>h),i.mono H (fun _ _ _ h=>h),k.mono H (fun _ _ _ h=>h)⟩
theorem qKc.agree {w w':World} (h:qKc B w v d) (ha:qZt B w w'):qKc B w' v d:=qQa.agree h ha (fun _ _ _ H=>H.agree ha)
theorem qKc.mono {C:Nat->Prop} {w:World} (h:qKc B w v d) (H:∀ b,B b->C b):qKc C w v d:=qQa.mono h H (fun _ _ _ r=>r.mono H)
def qZh (n:Nat) (w:World) (v:Value) (d:Dc):Prop:=qQa 9 (rdNd n) (·<n) w v d
theorem rdNd.later {w w':World} (h:rdNd n w cs x) (H:Below m w w') (c:n<=m):rdNd n w' cs x:=by
 obtain ⟨A,K,s,f,i,k,q⟩:=h;exact ⟨A,K,s,f,i.later qZg H c,k.later qQc H c,q.later qQc H c⟩
theorem rdNd.raise {w:World} (h:rdNd n w cs x) (q:n<=m):rdNd m w cs x:=by
 obtain ⟨A,K,s,c,f,i,k⟩:=h;have H:∀ b:Nat,b<n->b<m:=fun b h=>Zc h q;exact ⟨A,K,s,c,f.mono H (fun _ _ _ h=>h),i.mono H (fun _ _ _ h=>h),k.mono H (fun _ _ _ h=>h)⟩
theorem qZh.later {w w':World} (h:qZh n w v d) (H:Below m w w') (c:n<=m):qZh n w' v d:=
 qQa.agree h (qZt.mono (qZt.below H) (fun _ H=>Zc H c)) (fun _ _ _ r=>r.later H c)
theorem qZh.raise {w:World} (h:qZh n w v d) (H:n<=m):qZh m w v d:=
 qQa.mono h (fun _ h=>Zc h H) (fun _ _ _ r=>r.raise H)
def lenV:Value->Nat | .slice _ n _=>n | _=>0
structure NdCells (n:Nat) (w:World) (b o:Nat) (x:Nd) (av kv sv:Value):Prop where
 live:w.cell? ⟨b,o,none⟩=some (.bool x.live)
 tag:w.cell? ⟨b,o+1,none⟩=some (.string ⟨x.tag.toArray⟩)
 text:w.cell? ⟨b,o+2,none⟩=some (.string ⟨x.text.toArray⟩)
 atts:w.cell? ⟨b,o+3,none⟩=some av
 up:w.cell? ⟨b,o+4,none⟩=some (.int .i64 x.up)
 kids:w.cell? ⟨b,o+5,none⟩=some kv
 hasS:w.cell? ⟨b,o+6,none⟩=some (.bool x.hasS)
 shadow:w.cell? ⟨b,o+7,none⟩=some sv
 inS:w.cell? ⟨b,o+8,none⟩=some (.bool x.inS)
 attsAt:zQb n w av x.attrs
 kidsAt:qKn n w kv x.kids
 shadowAt:qKn n w sv x.shadow
theorem zZw {w:World} (h:Cells w b o cs) (r:rdNd n w cs x):∃ A kv s,NdCells n w b o x A kv s:=by
 obtain ⟨A,kv,s,rfl,H,c,f⟩:=r;exact ⟨A,kv,s,by simpa using h 0 _ rfl,h 1 _ rfl,h 2 _ rfl,h 3 _ rfl,h 4 _ rfl,h 5 _ rfl,h 6 _ rfl,h 7 _ rfl,h 8 _ rfl,H,c,f⟩
theorem qZh.node {w:World} (h:qZh n w v d) (i:Nat) (t:i<d.length) :
 ∃ b O cap A kv s,v=.slice (some ⟨b,O,none⟩) d.length cap/\d.length<=cap/\cap<=9223372036854775807/\b<n/\NdCells n w b (O+i*9) d[i] A kv s:=by
 obtain ⟨a,u,E,c,f⟩:=Rf h;obtain ⟨b,O,cap,cs,H,k,y,q,r⟩:=qQa.elem h i t;obtain ⟨A,kv,s,N⟩:=zZw q r;rw [H] at E;simp at E;obtain ⟨_,rfl⟩:=E;exact ⟨b,O,cap,A,kv,s,H,c,f,k,N⟩
theorem qKc.node {w:World} (h:qKc B w v d) (r:∀ b,B b->b<w.heap.size) (i:Nat) (J:i<d.length) :
 ∃ b O cap A kv s,v=.slice (some ⟨b,O,none⟩) d.length cap/\d.length<=cap/\cap<=9223372036854775807/\b<w.heap.size/\NdCells w.heap.size w b (O+i*9) d[i] A kv s/\qQa 2 qXc B w A d[i].attrs:=by
 obtain ⟨a,N,E,y,z⟩:=Rf h;obtain ⟨b,O,cap,cs,f,F,P,k,q⟩:=qQa.elem h i J;have I:=q;obtain ⟨A,kv,s,rfl,M,R,T⟩:=I;have G:=k;obtain ⟨u,K,S,H⟩:=zZw k (q.mono r);have D:u=A:=by
  have c:=H.atts;have t:=G 3 A rfl;rw [t] at c;exact (Option.some.inj c).symm
 rw [D] at H;rw [f] at E;simp at E;obtain ⟨_,rfl⟩:=E;exact ⟨b,O,cap,A,K,S,f,y,z,r _ F,H,M⟩
theorem qD3 {w:World} {q:Nat} {l:List Att} (h:zQb m w (.slice (some ⟨b,o,none⟩) q cap) l) (i:Nat) (k:i<l.length) :
 w.cell? ⟨b,o+i*2,none⟩=some (.string ⟨l[i].name.toArray⟩)/\w.cell? ⟨b,o+i*2+1,none⟩=some (.string ⟨l[i].value.toArray⟩):=by
 obtain ⟨r,O,s,cs,H,_,t,c,f⟩:=qQa.elem h i k;simp at H;obtain ⟨⟨rfl,rfl⟩,_,_⟩:=H;cases f;exact ⟨by simpa using c.at 0 (by simp),by simpa using c.at 1 (by simp)⟩
theorem qJg:SlT Tryz.prog 28 3 1 8:=by
 refine ⟨by kernel_rfl,?_⟩;obtain ⟨i,h,H,c,f⟩:=info_parts (by kernel_rfl:(Tryz.prog.info? 3).map (fun i=>(i.zero,i.size,i.bytes))=some (some (.int .i64 0),1,8));exact ⟨i,_,h,H,c,f,rfl⟩
theorem qDl (h:(l.take j).find? p=none) (H:j<l.length) (c:p l[j]=false):(l.take (j+1)).find? p=none:=by
 rw [Zk H,List.find?_append,h];simp [c]
theorem zJ6 (h:(l.take j).find? p=none) (H:j<l.length) (c:p l[j]=true):l.find? p=some l[j]:=by
 have e:(l.take (j+1)++l.drop (j+1)).find? p=some l[j]:=by
  rw [List.find?_append,Zk H,List.find?_append,h];simp [c]
 rwa [List.take_append_drop] at e
theorem zVv (w:World) (base:Nat) (n:Int) (H:base<=w.heap.size):qQb 1 qQf base 3 (w.alloc (.cells #[.int .i64 n] 3)) (.slice (some ⟨w.heap.size,0,none⟩) 1 1) [n]:=
 ⟨[[.int .i64 n]],rfl,by intro i h c;simp at h;subst h;exact ⟨rfl,rfl⟩,rfl,.inr ⟨w.heap.size,1,_,rfl,H,heap_alloc_new w _,Zb _,by decide,rfl,rfl⟩⟩
def storeAll:World->Nat->Nat->List Value->World
 | w,_,_,[]=>w
 | w,g,o,c::cs=>storeAll (w.setCell ⟨g,o,none⟩ c) g (o+1) cs
def setAll:List Value->Nat->List Value->List Value
 | xs,_,[]=>xs
 | xs,o,c::cs=>setAll (xs.set o c) (o+1) cs
theorem zJk:∀ (cs xs:List Value) (o:Nat),(setAll xs o cs).length=xs.length:=by
 intro cs;induction cs with
 | nil=>intro xs o;rfl
 | cons c cs i=>intro xs o;rw [setAll,i];simp
theorem qGn:∀ (cs xs:List Value) (o j:Nat),j<o∨o+cs.length<=j->(setAll xs o cs)[j]?=xs[j]?:=by
 intro cs;induction cs with
 | nil=>intro xs o j _;rfl
 | cons c cs i=>
   intro xs o j h;simp only [Zm] at h;rw [setAll,i _ _ _ (by omega),List.getElem?_set_ne (by omega)]
theorem zH9:∀ (cs xs:List Value) (o j:Nat),o+cs.length<=xs.length->j<cs.length->(setAll xs o cs)[o+j]?=cs[j]?:=by
 intro cs;induction cs with
 | nil=>intro xs o j _ h;simp at h
 | cons c cs i=>
   intro xs o j H f;simp only [Zm] at H f;rw [setAll];cases j with
   | zero=>
     have:=qGn cs (xs.set o c) (o+1) o (by omega);rw [List.getElem?_set_self (by omega)] at this;exact this
   | succ j=>
     have:=i (xs.set o c) (o+1) j (by simp;omega) (by omega);rw [show o+(j+1)=o+1+j by omega,this];simp
theorem qGh {e:TypeId} {s g:Nat} :∀ (cs:List Value) (w:World) (xs:List Value) (o:Nat),w.ownsRow base e s (.slice (some ⟨g,0,none⟩) n cap) n xs ->
 (storeAll w g o cs).ownsRow base e s (.slice (some ⟨g,0,none⟩) n cap) n (setAll xs o cs)/\w.grownBy (storeAll w g o cs) (some g):=by
 intro cs;induction cs with
 | nil=>intro w xs o h;exact ⟨h,World.grownBy.refl _ _⟩
 | cons c cs I=>
   intro w xs o h;obtain ⟨H,f⟩:=h.stored o c;obtain ⟨i,k⟩:=I _ _ (o+1) H;exact ⟨i,qQl f k⟩
theorem zQp:∀ (X:List (List Value)) (i:Nat) (cs:List Value) (sz:Nat),(∀ x∈X,x.length=sz)->cs.length=sz->i<X.length->setAll X.flatten (i*sz) cs=(X.set i cs).flatten:=by
 intro X i cs sz H s u;have t:∀ x∈X.set i cs,x.length=sz:=fun x h=>by
  rcases List.mem_or_eq_of_mem_set h with h | rfl
  ·exact H x h
  ·exact s
 apply List.ext_getElem?;intro j;have F:(setAll X.flatten (i*sz) cs).length=X.length*sz:=by rw [zJk,qKe H]
 have G:(X.set i cs).flatten.length=X.length*sz:=by rw [qKe t];simp
 by_cases y:j<X.length*sz
 ·have E:0<sz:=Nat.pos_of_ne_zero (by rintro rfl;simp at y);have q:j / sz<X.length:=Nat.div_lt_of_lt_mul (by rw [Nat.mul_comm];exact y);have A:j % sz<sz:=Nat.mod_lt _ E;have z:j=j / sz*sz+j % sz:=by rw [Nat.mul_comm];exact (Nat.div_add_mod j sz).symm
  have D:i*sz+sz<=X.length*sz:=by rw [<- Nat.succ_mul];exact Nat.mul_le_mul_right _ u
  by_cases k:j / sz=i
  ·have f:=zH9 cs X.flatten (i*sz) (j % sz) (by rw [qKe H,s];exact D) (by omega);have c:=qJt t i (by simpa using u) (j % sz) _ (by rw [List.getElem_set_self];exact Zi (by omega));rw [z,k,f,c];exact Zi (by omega)
  ·have f:(setAll X.flatten (i*sz) cs)[j]?=X.flatten[j]?:=qGn _ _ _ _ (by
    rcases Nat.lt_or_gt_of_ne k with h | h
    ·left;have:(j / sz+1)*sz<=i*sz:=Nat.mul_le_mul_right _ h;rw [Nat.succ_mul] at this;omega
    ·right;have:(i+1)*sz<=j / sz*sz:=Nat.mul_le_mul_right _ h;rw [Nat.succ_mul] at this;omega)
   have r:=qJt H (j / sz) q (j % sz) _ (Zi (by rw [H _ (Zl q)];exact A));have c:=qJt t (j / sz) (by simpa using q) (j % sz) (X[j / sz][j % sz]'(by rw [H _ (Zl q)];exact A)) (by
    rw [List.getElem_set_ne (fun h=>k h.symm)];exact Zi _)
   rw [f];rw [<- z] at c r;rw [c,r]
 ·rw [List.getElem?_eq_none (by omega),List.getElem?_eq_none (by omega)]
theorem qQb.stored {rd:World->List Value->α->Prop} {e:TypeId} {w:World} {g:Nat} {l:List α} (h:qQb sz rd base e w (.slice (some ⟨g,0,none⟩) n cap) l) (i:Nat) (G:i<l.length) (cs:List Value) (x:α)
 (A:n=l.length) (r:cs.length=sz) (D:rd (storeAll w g (i*sz) cs) cs x) (H:∀ Y y,y∈l->rd w Y y->rd (storeAll w g (i*sz) cs) Y y) :
 qQb sz rd base e (storeAll w g (i*sz) cs) (.slice (some ⟨g,0,none⟩) n cap) (l.set i x)/\w.grownBy (storeAll w g (i*sz) cs) (some g):=by
 subst A;obtain ⟨X,E,s,F⟩:=h;obtain ⟨q,t⟩:=qGh cs w _ (i*sz) F;have f:∀ x∈X,x.length=sz:=by
  intro x f;obtain ⟨k,H,rfl⟩:=List.getElem_of_mem f;exact (s k (by omega) H).1
 rw [zQp X i cs sz f r (by omega)] at q;refine ⟨⟨X.set i cs,by simpa using E,?_,by simpa using q⟩,t⟩;intro k u z;by_cases c:i=k
 ·subst c;simp only [List.getElem_set_self];exact ⟨r,D⟩
 ·rw [List.getElem_set_ne c,List.getElem_set_ne c];have:=s k (by simpa using u) (by simpa using z);exact ⟨this.1,H _ _ (Zl _) this.2⟩
def ndV (x:Nd) (av kv sv:Value):Value:=.agg #[.bool x.live,.string ⟨x.tag.toArray⟩,.string ⟨x.text.toArray⟩,av,.int .i64 x.up,kv,.bool x.hasS,sv,.bool x.inS]
theorem zFk:SlT Tryz.prog 25 66 9 136:=by
 refine ⟨by kernel_rfl,?_⟩;obtain ⟨i,h,H,c,f⟩:=info_parts (by kernel_rfl:(Tryz.prog.info? 66).map (fun i=>(i.zero,i.size,i.bytes))=some (some (.agg #[.bool false,.string ⟨#[]⟩,.string ⟨#[]⟩,.slice none 0 0,.int .i64 0,.slice none 0 0,.bool false,.slice none 0 0,.bool false]),9,136));exact ⟨i,_,h,H,c,f,rfl⟩
theorem zJ7 {rd:World->List Value->α->Prop} {w:World} {l:List α} (h:qQa sz rd B w v l):v.oneCell'=true:=by
 obtain ⟨a,c,rfl,_,_⟩:=Rf h;rfl
theorem zGd {rd:World->List Value->α->Prop} (w:World) (base g:Nat) (e:TypeId) (hg:g=w.heap.size) (H:base<=g):qQb sz rd base e (w.alloc (.cells #[] e)) (.slice (some ⟨g,0,none⟩) 0 0) ([]:List α):=by
 subst hg;exact ⟨[],rfl,by intro i h;simp at h,World.ownsRow_lit w #[] 0 H (by decide) (by simp)⟩
theorem qGp {P:Program} {w:World} {O:Array Oper} {rest:List Oper} {o:Oper} {a:Act} (hg:o.guard=none)
 (s x:Operand) (t:TypeId) (R:o.op=.call {callee:=.builtin .append,args:=#[s,x],argTypes:=#[t,t] } )
 {e:TypeId} {i:Nat} (S:SlT P t e sz i) (X:0<sz) {rd:World->List Value->α->Prop} {n0:Nat} (M:n0<=w.heap.size) (hst:∀ w w' cs y,Below n0 w w'->rd w cs y->rd w' cs y) (D:∀ w cs y,rd w cs y->∀ u∈cs,u.oneCell'=true)
 (N:n0<=base) {l:List α} (U:a.eval s=v) (f:qQb sz rd base e w v l) {C:Array Value} {E:TypeId} {g:Nat} (Z:a.eval x=.slice (some ⟨g,0,none⟩) 1 1) (hgs:g=w.heap.size) (y:α)
 (hC:C.size=sz/\rd w C.toList y) (I:(l.length+1)*i<=140737488355328) (K:l.length+1<=9223372036854775807) (a0:base<=w.heap.size)
 (h:∀ V w',qQb sz rd base e w' V (l++[y])->w.grownBy w' v.ownBlock->qZc w v V->wpList P O Q rest (a.put o.dst V) w'):wpList P O Q (o::rest) a (w.alloc (.cells C E)):=by
 subst hgs;have q:∀ cs Y,rd w cs Y->rd (w.alloc (.cells C E)) cs Y:=fun cs Y h=>hst _ _ _ _ (Below.alloc (Below.refl _ _) M _) h;have z:=qJv (rd:=rd) (sz:=sz) w C.toList E y (by simpa using hC.1) (by simp only [Array.toArray_toList];exact q _ _ hC.2);simp only [Array.toArray_toList] at z;have T:qQb sz rd base e (w.alloc (.cells C E)) v l:=f.agree (fun b G=>Below.heap_alloc w _ b (f.lt b G).2) (fun _ _ _ r=>q _ _ r);refine qZe hg s x t R S X U T Z z (fun cs Y _ r=>D _ _ _ r) (by simpa using I) (by simpa using K) (by simp;omega)
  (fun w' J cs Y _ r=>hst _ _ _ _ (Below.grown (Below.refl n0 _) J (by simp;omega) (fun k c=>Za N (f.lt k c).1)) r) ?_
 intro V w' A F _ H;refine h V w' A (qQl (World.grownBy_alloc w _ _) F) ?_;rcases H with H | ⟨k,H,c⟩
 ·exact .inl H
 ·exact .inr ⟨k,H,by simp at c;omega⟩
theorem qQb.slots {rd:World->List Value->α->Prop} {e:TypeId} {w:World} {l:List α} (h:qQb sz rd base e w v l) (i:Nat) (k:i<l.length) :
 ∃ g cap,v=.slice (some ⟨g,0,none⟩) l.length cap/\base<=g/\l.length<=cap/\cap<=9223372036854775807/\(∀ j,j<sz->∃ u,w.cell? ⟨g,i*sz+j,none⟩=some u)/\∀ j,w.frozen? ⟨g,j,none⟩=false:=by
 obtain ⟨X,D,E,q⟩:=h;rcases q.2 with ⟨rfl,t⟩ | ⟨g,cap,s,rfl,c,hg,r,f,y,A⟩
 ·omega
 ·refine ⟨g,cap,rfl,c,r,by simpa [maxLen] using f,fun j z=>?_,fun j=>q.frozenAt j⟩;have H:i*sz+j<l.length*sz:=Zc (by rw [Nat.succ_mul];omega:i*sz+j<(i+1)*sz) (Nat.mul_le_mul_right _ k);exact ⟨_,(q.cellAt _ H).trans (Zi (by rw [q.1];exact H))⟩
def Blk (w:World) (g:Nat) (C:List Value) (e:TypeId):Prop:=w.heap[g]?=some (.cells C.toArray e (0,0))
section
variable {w w':World} {g:Nat} {C:List Value} {e:TypeId}
theorem Blk.cell (h:Blk w g C e) (j:Nat):w.cell? ⟨g,j,none⟩=C[j]?:=by
 rw [cell_of_row w g j _ e (0,0) h];simp
theorem Blk.frozen (h:Blk w g C e) (j:Nat):w.frozen? ⟨g,j,none⟩=false:=frozen_of_row w g j _ e h
theorem Blk.lt (h:Blk w g C e):g<w.heap.size:=by
 have H:w.heap[g]?=_:=h;exact (Array.getElem?_eq_some_iff.1 H).1
theorem Blk.new (w:World) (g:Nat) (hg:g=w.heap.size) (C:List Value) (e:TypeId):Blk (w.alloc (.cells C.toArray e)) g C e:=by
 subst hg;exact heap_alloc_new w _
theorem Blk.new' (w:World) (g:Nat) (hg:g=w.heap.size) (C:Array Value) (e:TypeId):Blk (w.alloc (.cells C e)) g C.toList e:=by
 have:=Blk.new w g hg C.toList e;rwa [Array.toArray_toList] at this
theorem Blk.of (h:Blk w g C e) (ha:w'.heap[g]?=w.heap[g]?):Blk w' g C e:=ha.trans h
theorem Blk.below (h:Blk w g C e) (H:Below n w w') (hg:g<n):Blk w' g C e:=h.of (H.block g hg)
theorem Blk.bel (h:Blk w g C e) (H:Bel w w'):Blk w' g C e:=h.below H h.lt
theorem Blk.drew (h:Blk w g C e):Blk w.drew g C e:=h
theorem Blk.set (h:Blk w g C e) (j:Nat) (v:Value):Blk (w.setCell ⟨g,j,none⟩ v) g (C.set j v) e:=by
 have H:w.heap[g]?=_:=h;unfold Blk;simp [World.setCell,Array.getElem?_modify,H]
theorem Blk.other (h:Blk w g C e) (a:Addr) (v:Value) (ha:g≠a.block):Blk (w.setCell a v) g C e:=h.of (Below.heap_setCell w a v g ha)
end
theorem qKh {K:Act->World->Prop} {x:Exit} {a:Act} {E:World->Prop} (hE:E W) (h:∀ w,E w->Exit.then K Q x a w):Exit.then K Q x a W:=h W hE
theorem Bel.drew {w:World} (h:Bel a w):Bel a w.drew:=⟨h.os,h.tape,h.output,h.size,h.block⟩
theorem Bel.setCell {w:World} (h:Bel a w) (g j:Nat) (v:Value) (hg:a.heap.size<=g):Bel a (w.setCell ⟨g,j,none⟩ v):=Below.setCell h hg v
def qW2 (w W:World) (C:List Value):Prop:=Bel w W/\Blk W w.heap.size C 66
theorem qW2.bel {w c:World} {C:List Value} (h:qW2 w W C) (b:Bel W c):qW2 w c C:=⟨Bt h.1 b,h.2.bel b⟩
theorem qW2.drew {w:World} {C:List Value} (h:qW2 w W C):qW2 w W.drew C:=⟨h.1.drew,h.2.drew⟩
def zWr (g n:Nat) (w:World) (v:Value) (l:List Int):Prop:=qQa 1 qQf (fun b=>g<b/\b<n) w v l
theorem zWr.bel {g:Nat} {w w':World} (h:zWr g w.heap.size w v l) (b:Bel w w'):zWr g w'.heap.size w' v l:=
 (qQa.agree h (qZt.mono (qZt.below b) (fun _ h=>h.2)) (fun _ _ _ h=>h)).mono (fun _ h=>⟨h.1,Zc h.2 b.size⟩) (fun _ _ _ h=>h)
theorem zWr.set {g:Nat} {w:World} (h:zWr g n w v l) (j:Nat) (u:Value):zWr g n (w.setCell ⟨g,j,none⟩ u) v l:=
 qQa.agree h (qZt.setCell _ _ (fun h=>Nat.lt_irrefl _ h.1)) (fun _ _ _ h=>h)
theorem size_setCell (w:World) (a:Addr) (v:Value):(w.setCell a v).heap.size=w.heap.size:=by simp [World.setCell]
