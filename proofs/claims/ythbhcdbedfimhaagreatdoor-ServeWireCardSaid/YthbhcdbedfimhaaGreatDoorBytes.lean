/- The document's answer about documents: walks. -/
import Derived.Test.YthbhcdbedfimhaaGreatDoorMem
import Derived.Test.YthbhcdbedfimhaaGreatDoorPlains
import Derived.Test.YthbhcdbedfimhaaGreatDoorProg
import Derived.WalkLawsBesides
import Derived.WalkSpells
import Derived.BigQuiet
import Derived.RegionTactic
import Derived.Deep.RegionWith
import Derived.Deep.Cut
import Derived.Deep.DeepCutAuto
import Derived.Deep.RegionLaw
import Derived.OwnWalk
import Derived.Lib.ConvBytes
namespace Go.Proofs.YthbhcdbedfimhaaGreatDoor
open Go.RowKit
variable {a:Act} {K:Act->World->Prop} {ops:Array Oper} {Q:Exit->Act->World->Prop} {l:List Int} {rest:List Oper} {cs:List Value} {b base bytes cap j n sz:Nat} {B:Nat->Prop} {x:Nd} {o:Oper} {P:Program} {α:Type} {v xv:Value} {W:World} {E:World->Prop}
def qXi:World->List Value->Att->Prop:=fun _ cs a=>cs=[.string ⟨a.name.toArray⟩,.string ⟨a.value.toArray⟩]
theorem qZg:qHb qXi:=fun _ _ _ _ h=>h
abbrev zQw (n:Nat) (w:World) (v:Value) (l:List Att):Prop:=qQa 2 qXi (·<n) w v l
abbrev qKz (n:Nat) (w:World) (v:Value) (l:List Int):Prop:=qQa 1 qQh (·<n) w v l
def qD3 (B:Nat->Prop):World->List Value->Nd->Prop:=fun w cs x=>∃ av kv sv,
 cs=[.bool x.live,.string ⟨x.tag.toArray⟩,.string ⟨x.text.toArray⟩,av,.int .i64 x.up,kv,.bool x.hasS,sv,.bool x.inS]/\qQa 2 qXi B w av x.attrs/\qQa 1 qQh B w kv x.kids/\qQa 1 qQh B w sv x.shadow
abbrev rdNd (n:Nat):World->List Value->Nd->Prop:=qD3 (·<n)
def qK7 (B:Nat->Prop) (w:World) (v:Value) (d:Dc):Prop:=qQa 9 (qD3 B) B w v d
theorem qD3.agree {w w':World} (h:qD3 B w cs x) (ha:qZs B w w'):qD3 B w' cs x:=by
 obtain ⟨av,kv,sv,H,c,f,i⟩:=h;exact ⟨av,kv,sv,H,c.agree ha (fun _ _ _ h=>h),f.agree ha (fun _ _ _ h=>h),i.agree ha (fun _ _ _ h=>h)⟩
theorem qD3.mono {C:Nat->Prop} {w:World} (h:qD3 B w cs x) (H:∀ b,B b->C b):qD3 C w cs x:=by
 obtain ⟨av,kv,sv,c,f,i,q⟩:=h;exact ⟨av,kv,sv,c,f.mono H (fun _ _ _ h=>h),i.mono H (fun _ _ _ h=>h),q.mono H (fun _ _ _ h=>h)⟩
theorem qK7.agree {w w':World} {d:Dc} (h:qK7 B w v d) (ha:qZs B w w'):qK7 B w' v d:=qQa.agree h ha (fun _ _ _ H=>H.agree ha)
theorem qK7.mono {C:Nat->Prop} {w:World} {d:Dc} (h:qK7 B w v d) (H:∀ b,B b->C b):qK7 C w v d:=qQa.mono h H (fun _ _ _ r=>r.mono H)
def qZh (n:Nat) (w:World) (v:Value) (d:Dc):Prop:=qQa 9 (rdNd n) (·<n) w v d
theorem rdNd.later {m:Nat} {w w':World} (h:rdNd n w cs x) (H:Below m w w') (c:n<=m):rdNd n w' cs x:=by
 obtain ⟨av,kv,sv,f,i,q,r⟩:=h;exact ⟨av,kv,sv,f,i.later qZg H c,q.later qQc H c,r.later qQc H c⟩
theorem rdNd.raise {m:Nat} {w:World} (h:rdNd n w cs x) (r:n<=m):rdNd m w cs x:=by
 obtain ⟨av,kv,sv,c,f,i,q⟩:=h;have H:∀ b:Nat,b<n->b<m:=fun b h=>Nat.lt_of_lt_of_le h r;exact ⟨av,kv,sv,c,f.mono H (fun _ _ _ h=>h),i.mono H (fun _ _ _ h=>h),q.mono H (fun _ _ _ h=>h)⟩
theorem qZh.later {m:Nat} {w w':World} {d:Dc} (h:qZh n w v d) (H:Below m w w') (c:n<=m):qZh n w' v d:=
 qQa.agree h (qZs.mono (qZs.below H) (fun _ H=>Nat.lt_of_lt_of_le H c)) (fun _ _ _ r=>r.later H c)
theorem qZh.raise {m:Nat} {w:World} {d:Dc} (h:qZh n w v d) (H:n<=m):qZh m w v d:=
 qQa.mono h (fun _ h=>Nat.lt_of_lt_of_le h H) (fun _ _ _ r=>r.raise H)
def lenV:Value->Nat | .slice _ n _=>n | _=>0
structure NdCells (n:Nat) (w:World) (b o:Nat) (x:Nd) (av kv sv:Value):Prop where
 live:w.cell? ⟨b,o,none⟩=some (.bool x.live)
 tag:w.cell? ⟨b,o+1,none⟩=some (.string ⟨x.tag.toArray⟩)
 text:w.cell? ⟨b,o+2,none⟩=some (.string ⟨x.text.toArray⟩)
 atts:w.cell? ⟨b,o+3,none⟩=some av
 up:w.cell? ⟨b,o+4,none⟩=some (.int .i64 x.up)
 kids:w.cell? ⟨b,o+5,none⟩=some kv
 hasS:w.cell? ⟨b,o+6,none⟩=some (.bool x.hasS)
 shadow:w.cell? ⟨b,o+7,none⟩=some sv
 inS:w.cell? ⟨b,o+8,none⟩=some (.bool x.inS)
 attsAt:zQw n w av x.attrs
 kidsAt:qKz n w kv x.kids
 shadowAt:qKz n w sv x.shadow
theorem zJi {w:World} {o:Nat} (h:Cells w b o cs) (r:rdNd n w cs x):∃ av kv sv,NdCells n w b o x av kv sv:=by
 obtain ⟨av,kv,sv,rfl,H,c,f⟩:=r;exact ⟨av,kv,sv,by simpa using h 0 _ rfl,h 1 _ rfl,h 2 _ rfl,h 3 _ rfl,h 4 _ rfl,h 5 _ rfl,h 6 _ rfl,h 7 _ rfl,h 8 _ rfl,H,c,f⟩
theorem qZh.node {w:World} {d:Dc} (h:qZh n w v d) (i:Nat) (u:i<d.length) :
 ∃ b O cap av kv sv,v=.slice (some ⟨b,O,none⟩) d.length cap/\d.length<=cap/\cap<=9223372036854775807/\b<n/\NdCells n w b (O+i*9) d[i] av kv sv:=by
 obtain ⟨a,y,c,f,q⟩:=qQa.form h;obtain ⟨b,O,cap,cs,H,r,z,s,t⟩:=qQa.elem h i u;obtain ⟨av,kv,sv,N⟩:=zJi s t;rw [H] at c;simp at c;obtain ⟨_,rfl⟩:=c;exact ⟨b,O,cap,av,kv,sv,H,f,q,r,N⟩
theorem qK7.node {w:World} {d:Dc} (h:qK7 B w v d) (t:∀ b,B b->b<w.heap.size) (i:Nat) (M:i<d.length) :
 ∃ b O cap av kv sv,v=.slice (some ⟨b,O,none⟩) d.length cap/\d.length<=cap/\cap<=9223372036854775807/\b<w.heap.size/\NdCells w.heap.size w b (O+i*9) d[i] av kv sv/\qQa 2 qXi B w av d[i].attrs:=by
 obtain ⟨a,T,c,z,D⟩:=qQa.form h;obtain ⟨b,O,cap,cs,q,I,U,r,s⟩:=qQa.elem h i M;have J:=s;obtain ⟨av,kv,sv,rfl,R,V,X⟩:=J;have G:=r;obtain ⟨y,N,S,H⟩:=zJi r (s.mono t);have F:y=av:=by
  have f:=H.atts;have u:=G 3 av rfl;rw [u] at f;exact (Option.some.inj f).symm
 rw [F] at H;rw [q] at c;simp at c;obtain ⟨_,rfl⟩:=c;exact ⟨b,O,cap,av,N,S,q,z,D,t _ I,H,R⟩
theorem zQo {m:Nat} {w:World} {o r:Nat} {l:List Att} (h:zQw m w (.slice (some ⟨b,o,none⟩) r cap) l) (i:Nat) (q:i<l.length) :
 w.cell? ⟨b,o+i*2,none⟩=some (.string ⟨l[i].name.toArray⟩)/\w.cell? ⟨b,o+i*2+1,none⟩=some (.string ⟨l[i].value.toArray⟩):=by
 obtain ⟨s,O,t,cs,H,_,u,c,f⟩:=qQa.elem h i q;simp at H;obtain ⟨⟨rfl,rfl⟩,_,_⟩:=H;cases f;exact ⟨by simpa using c.at 0 (by simp),by simpa using c.at 1 (by simp)⟩
theorem qJs:SlT Tryz.prog 28 3 1 8:=by
 refine ⟨by kernel_rfl,?_⟩;obtain ⟨i,h,H,c,f⟩:=info_parts (by kernel_rfl:(Tryz.prog.info? 3).map (fun i=>(i.zero,i.size,i.bytes))=some (some (.int .i64 0),1,8));exact ⟨i,_,h,H,c,f,rfl⟩
theorem qD5 {p:Int->Bool} (h:(l.take j).find? p=none) (H:j<l.length) (c:p l[j]=false):(l.take (j+1)).find? p=none:=by
 rw [List.take_succ_eq_append_getElem H,List.find?_append,h];simp [c]
theorem zK1 {p:Int->Bool} (h:(l.take j).find? p=none) (H:j<l.length) (c:p l[j]=true):l.find? p=some l[j]:=by
 have e:(l.take (j+1)++l.drop (j+1)).find? p=some l[j]:=by
  rw [List.find?_append,List.take_succ_eq_append_getElem H,List.find?_append,h];simp [c]
 rwa [List.take_append_drop] at e
theorem zW7 (w:World) (base:Nat) (n:Int) (H:base<=w.heap.size):qQb 1 qQh base 3 (w.alloc (.cells #[.int .i64 n] 3)) (.slice (some ⟨w.heap.size,0,none⟩) 1 1) [n]:=
 ⟨[[.int .i64 n]],rfl,by intro i h c;simp at h;subst h;exact ⟨rfl,rfl⟩,rfl,.inr ⟨w.heap.size,1,_,rfl,H,heap_alloc_new w _,Nat.le_refl _,by decide,rfl,rfl⟩⟩
def storeAll:World->Nat->Nat->List Value->World
 | w,_,_,[]=>w
 | w,g,o,c::cs=>storeAll (w.setCell ⟨g,o,none⟩ c) g (o+1) cs
def setAll:List Value->Nat->List Value->List Value
 | xs,_,[]=>xs
 | xs,o,c::cs=>setAll (xs.set o c) (o+1) cs
theorem zJ9:∀ (cs xs:List Value) (o:Nat),(setAll xs o cs).length=xs.length:=by
 intro cs;induction cs with
 | nil=>intro xs o;rfl
 | cons c cs i=>intro xs o;rw [setAll,i];simp
theorem qG7:∀ (cs xs:List Value) (o j:Nat),j<o∨o+cs.length<=j->(setAll xs o cs)[j]?=xs[j]?:=by
 intro cs;induction cs with
 | nil=>intro xs o j _;rfl
 | cons c cs i=>
   intro xs o j h;simp only [List.length_cons] at h;rw [setAll,i _ _ _ (by omega),List.getElem?_set_ne (by omega)]
theorem zF9:∀ (cs xs:List Value) (o j:Nat),o+cs.length<=xs.length->j<cs.length->(setAll xs o cs)[o+j]?=cs[j]?:=by
 intro cs;induction cs with
 | nil=>intro xs o j _ h;simp at h
 | cons c cs i=>
   intro xs o j H f;simp only [List.length_cons] at H f;rw [setAll];cases j with
   | zero=>
     have:=qG7 cs (xs.set o c) (o+1) o (by omega);rw [List.getElem?_set_self (by omega)] at this;exact this
   | succ j=>
     have:=i (xs.set o c) (o+1) j (by simp;omega) (by omega);rw [show o+(j+1)=o+1+j by omega,this];simp
theorem qG0 {e:TypeId} {s g:Nat} :∀ (cs:List Value) (w:World) (xs:List Value) (o:Nat),w.ownsRow base e s (.slice (some ⟨g,0,none⟩) n cap) n xs ->
 (storeAll w g o cs).ownsRow base e s (.slice (some ⟨g,0,none⟩) n cap) n (setAll xs o cs)/\w.grownBy (storeAll w g o cs) (some g):=by
 intro cs;induction cs with
 | nil=>intro w xs o h;exact ⟨h,World.grownBy.refl _ _⟩
 | cons c cs I=>
   intro w xs o h;obtain ⟨H,f⟩:=h.stored o c;obtain ⟨i,q⟩:=I _ _ (o+1) H;exact ⟨i,qQm f q⟩
theorem zZb:∀ (X:List (List Value)) (i:Nat) (cs:List Value) (sz:Nat),(∀ x∈X,x.length=sz)->cs.length=sz->i<X.length->setAll X.flatten (i*sz) cs=(X.set i cs).flatten:=by
 intro X i cs sz H u y;have t:∀ x∈X.set i cs,x.length=sz:=fun x h=>by
  rcases List.mem_or_eq_of_mem_set h with h | rfl
  ·exact H x h
  ·exact u
 apply List.ext_getElem?;intro j;have J:(setAll X.flatten (i*sz) cs).length=X.length*sz:=by rw [zJ9,qKi H]
 have M:(X.set i cs).flatten.length=X.length*sz:=by rw [qKi t];simp
 by_cases z:j<X.length*sz
 ·have I:0<sz:=Nat.pos_of_ne_zero (by rintro rfl;simp at z);have q:j / sz<X.length:=Nat.div_lt_of_lt_mul (by rw [Nat.mul_comm];exact z);have F:j % sz<sz:=Nat.mod_lt _ I;have D:j=j / sz*sz+j % sz:=by rw [Nat.mul_comm];exact (Nat.div_add_mod j sz).symm
  have G:i*sz+sz<=X.length*sz:=by rw [<- Nat.succ_mul];exact Nat.mul_le_mul_right _ y
  by_cases r:j / sz=i
  ·have f:=zF9 cs X.flatten (i*sz) (j % sz) (by rw [qKi H,u];exact G) (by omega);have c:=qJy t i (by simpa using y) (j % sz) _ (by rw [List.getElem_set_self];exact List.getElem?_eq_getElem (by omega));rw [D,r,f,c];exact List.getElem?_eq_getElem (by omega)
  ·have f:(setAll X.flatten (i*sz) cs)[j]?=X.flatten[j]?:=qG7 _ _ _ _ (by
    rcases Nat.lt_or_gt_of_ne r with h | h
    ·left;have:(j / sz+1)*sz<=i*sz:=Nat.mul_le_mul_right _ h;rw [Nat.succ_mul] at this;omega
    ·right;have:(i+1)*sz<=j / sz*sz:=Nat.mul_le_mul_right _ h;rw [Nat.succ_mul] at this;omega)
   have s:=qJy H (j / sz) q (j % sz) _ (List.getElem?_eq_getElem (by rw [H _ (List.getElem_mem q)];exact F));have c:=qJy t (j / sz) (by simpa using q) (j % sz) (X[j / sz][j % sz]'(by rw [H _ (List.getElem_mem q)];exact F)) (by
    rw [List.getElem_set_ne (fun h=>r h.symm)];exact List.getElem?_eq_getElem _)
   rw [f];rw [<- D] at c s;rw [c,s]
 ·rw [List.getElem?_eq_none (by omega),List.getElem?_eq_none (by omega)]
theorem qQb.stored {rd:World->List Value->α->Prop} {e:TypeId} {w:World} {g:Nat} {l:List α} (h:qQb sz rd base e w (.slice (some ⟨g,0,none⟩) n cap) l) (i:Nat) (J:i<l.length) (cs:List Value) (x:α)
 (D:n=l.length) (r:cs.length=sz) (F:rd (storeAll w g (i*sz) cs) cs x) (H:∀ Y y,y∈l->rd w Y y->rd (storeAll w g (i*sz) cs) Y y) :
 qQb sz rd base e (storeAll w g (i*sz) cs) (.slice (some ⟨g,0,none⟩) n cap) (l.set i x)/\w.grownBy (storeAll w g (i*sz) cs) (some g):=by
 subst D;obtain ⟨X,G,s,I⟩:=h;obtain ⟨q,t⟩:=qG0 cs w _ (i*sz) I;have f:∀ x∈X,x.length=sz:=by
  intro x f;obtain ⟨k,H,rfl⟩:=List.getElem_of_mem f;exact (s k (by omega) H).1
 rw [zZb X i cs sz f r (by omega)] at q;refine ⟨⟨X.set i cs,by simpa using G,?_,by simpa using q⟩,t⟩;intro k u z;by_cases c:i=k
 ·subst c;simp only [List.getElem_set_self];exact ⟨r,F⟩
 ·rw [List.getElem_set_ne c,List.getElem_set_ne c];have:=s k (by simpa using u) (by simpa using z);exact ⟨this.1,H _ _ (List.getElem_mem _) this.2⟩
def ndV (x:Nd) (av kv sv:Value):Value:=.agg #[.bool x.live,.string ⟨x.tag.toArray⟩,.string ⟨x.text.toArray⟩,av,.int .i64 x.up,kv,.bool x.hasS,sv,.bool x.inS]
theorem jQn:SlT Tryz.prog 25 94 9 136:=by
 refine ⟨by kernel_rfl,?_⟩;obtain ⟨i,h,H,c,f⟩:=info_parts (by kernel_rfl:(Tryz.prog.info? 94).map (fun i=>(i.zero,i.size,i.bytes))=some (some (.agg #[.bool false,.string ⟨#[]⟩,.string ⟨#[]⟩,.slice none 0 0,.int .i64 0,.slice none 0 0,.bool false,.slice none 0 0,.bool false]),9,136));exact ⟨i,_,h,H,c,f,rfl⟩
theorem zK2 {rd:World->List Value->α->Prop} {w:World} {l:List α} (h:qQa sz rd B w v l):v.oneCell'=true:=by
 obtain ⟨a,c,rfl,_,_⟩:=qQa.form h;rfl
theorem zDd {rd:World->List Value->α->Prop} (w:World) (base g:Nat) (e:TypeId) (hg:g=w.heap.size) (H:base<=g):qQb sz rd base e (w.alloc (.cells #[] e)) (.slice (some ⟨g,0,none⟩) 0 0) ([]:List α):=by
 subst hg;exact ⟨[],rfl,by intro i h;simp at h,World.ownsRow_lit w #[] 0 H (by decide) (by simp)⟩
theorem qG9 {w:World} (hg:o.guard=none)
 (s x:Operand) (t:TypeId) (T:o.op=.call {callee:=.builtin .append,args:=#[s,x],argTypes:=#[t,t] } )
 {e:TypeId} (S:SlT P t e sz bytes) (Z:0<sz) {rd:World->List Value->α->Prop} {n0:Nat} (O:n0<=w.heap.size) (hst:∀ w w' cs y,Below n0 w w'->rd w cs y->rd w' cs y) (F:∀ w cs y,rd w cs y->∀ u∈cs,u.oneCell'=true)
 (R:n0<=base) {l:List α} (X:a.eval s=v) (i:qQb sz rd base e w v l) {C:Array Value} {c:TypeId} {g:Nat} (hx:a.eval x=.slice (some ⟨g,0,none⟩) 1 1) (hgs:g=w.heap.size) (y:α)
 (hC:C.size=sz/\rd w C.toList y) (J:(l.length+1)*bytes<=140737488355328) (N:l.length+1<=9223372036854775807) (a0:base<=w.heap.size)
 (h:∀ V w',qQb sz rd base e w' V (l++[y])->w.grownBy w' v.ownBlock->qQ9 w v V->wpList P ops Q rest (a.put o.dst V) w'):wpList P ops Q (o::rest) a (w.alloc (.cells C c)):=by
 subst hgs;have q:∀ cs Y,rd w cs Y->rd (w.alloc (.cells C c)) cs Y:=fun cs Y h=>hst _ _ _ _ (Below.alloc (Below.refl _ _) O _) h;have z:=qJ0 (rd:=rd) (sz:=sz) w C.toList c y (by simpa using hC.1) (by simp only [Array.toArray_toList];exact q _ _ hC.2);simp only [Array.toArray_toList] at z;have U:qQb sz rd base e (w.alloc (.cells C c)) v l:=i.agree (fun b I=>Below.heap_alloc w _ b (i.lt b I).2) (fun _ _ _ r=>q _ _ r);refine qZf hg s x t T S Z X U hx z (fun cs Y _ r=>F _ _ _ r) (by simpa using J) (by simpa using N) (by simp;omega)
  (fun w' M cs Y _ r=>hst _ _ _ _ (Below.grown (Below.refl n0 _) M (by simp;omega) (fun k f=>Nat.le_trans R (i.lt k f).1)) r) ?_
 intro V w' D G _ H;refine h V w' D (qQm (World.grownBy_alloc w _ _) G) ?_;rcases H with H | ⟨k,H,f⟩
 ·exact .inl H
 ·exact .inr ⟨k,H,by simp at f;omega⟩
theorem qQb.slots {rd:World->List Value->α->Prop} {e:TypeId} {w:World} {l:List α} (h:qQb sz rd base e w v l) (i:Nat) (r:i<l.length) :
 ∃ g cap,v=.slice (some ⟨g,0,none⟩) l.length cap/\base<=g/\l.length<=cap/\cap<=9223372036854775807/\(∀ j,j<sz->∃ u,w.cell? ⟨g,i*sz+j,none⟩=some u)/\∀ j,w.frozen? ⟨g,j,none⟩=false:=by
 obtain ⟨X,G,I,q⟩:=h;rcases q.2 with ⟨rfl,y⟩ | ⟨g,cap,t,rfl,c,hg,s,f,z,F⟩
 ·omega
 ·refine ⟨g,cap,rfl,c,s,by simpa [maxLen] using f,fun j D=>?_,fun j=>q.frozenAt j⟩;have H:i*sz+j<l.length*sz:=Nat.lt_of_lt_of_le (by rw [Nat.succ_mul];omega:i*sz+j<(i+1)*sz) (Nat.mul_le_mul_right _ r);exact ⟨_,(q.cellAt _ H).trans (List.getElem?_eq_getElem (by rw [q.1];exact H))⟩
def Blk (w:World) (g:Nat) (C:List Value) (e:TypeId):Prop:=w.heap[g]?=some (.cells C.toArray e (0,0))
section
variable {w w':World} {g:Nat} {C:List Value} {e:TypeId}
theorem Blk.cell (h:Blk w g C e) (j:Nat):w.cell? ⟨g,j,none⟩=C[j]?:=by
 rw [cell_of_row w g j _ e (0,0) h];simp
theorem Blk.frozen (h:Blk w g C e) (j:Nat):w.frozen? ⟨g,j,none⟩=false:=frozen_of_row w g j _ e h
theorem Blk.lt (h:Blk w g C e):g<w.heap.size:=by
 have H:w.heap[g]?=_:=h;exact (Array.getElem?_eq_some_iff.1 H).1
theorem Blk.new (w:World) (g:Nat) (hg:g=w.heap.size) (C:List Value) (e:TypeId):Blk (w.alloc (.cells C.toArray e)) g C e:=by
 subst hg;exact heap_alloc_new w _
theorem Blk.new' (w:World) (g:Nat) (hg:g=w.heap.size) (C:Array Value) (e:TypeId):Blk (w.alloc (.cells C e)) g C.toList e:=by
 have:=Blk.new w g hg C.toList e;rwa [Array.toArray_toList] at this
theorem Blk.of (h:Blk w g C e) (ha:w'.heap[g]?=w.heap[g]?):Blk w' g C e:=ha.trans h
theorem Blk.below (h:Blk w g C e) (H:Below n w w') (hg:g<n):Blk w' g C e:=h.of (H.block g hg)
theorem Blk.bel (h:Blk w g C e) (H:Bel w w'):Blk w' g C e:=h.below H h.lt
theorem Blk.drew (h:Blk w g C e):Blk w.drew g C e:=h
theorem Blk.set (h:Blk w g C e) (j:Nat) (v:Value):Blk (w.setCell ⟨g,j,none⟩ v) g (C.set j v) e:=by
 have H:w.heap[g]?=_:=h;unfold Blk;simp [World.setCell,Array.getElem?_modify,H]
theorem Blk.other (h:Blk w g C e) (a:Addr) (v:Value) (ha:g≠a.block):Blk (w.setCell a v) g C e:=h.of (Below.heap_setCell w a v g ha)
end
theorem qJm {x:Exit} (hE:E W) (h:∀ w,E w->Exit.then K Q x a w):Exit.then K Q x a W:=h W hE
theorem Bel.drew {a w:World} (h:Bel a w):Bel a w.drew:=⟨h.os,h.tape,h.output,h.size,h.block⟩
theorem Bel.setCell {a w:World} (h:Bel a w) (g j:Nat) (v:Value) (hg:a.heap.size<=g):Bel a (w.setCell ⟨g,j,none⟩ v):=Below.setCell h hg v
def qBf (w W:World) (C:List Value):Prop:=Bel w W/\Blk W w.heap.size C 94
theorem qBf.bel {w c:World} {C:List Value} (h:qBf w W C) (b:Bel W c):qBf w c C:=⟨Bel.then h.1 b,h.2.bel b⟩
theorem qBf.drew {w:World} {C:List Value} (h:qBf w W C):qBf w W.drew C:=⟨h.1.drew,h.2.drew⟩
def zB9 (g n:Nat) (w:World) (v:Value) (l:List Int):Prop:=qQa 1 qQh (fun b=>g<b/\b<n) w v l
theorem zB9.bel {g:Nat} {w w':World} (h:zB9 g w.heap.size w v l) (b:Bel w w'):zB9 g w'.heap.size w' v l:=
 (qQa.agree h (qZs.mono (qZs.below b) (fun _ h=>h.2)) (fun _ _ _ h=>h)).mono (fun _ h=>⟨h.1,Nat.lt_of_lt_of_le h.2 b.size⟩) (fun _ _ _ h=>h)
theorem zB9.set {g:Nat} {w:World} (h:zB9 g n w v l) (j:Nat) (u:Value):zB9 g n (w.setCell ⟨g,j,none⟩ u) v l:=
 qQa.agree h (qZs.setCell _ _ (fun h=>Nat.lt_irrefl _ h.1)) (fun _ _ _ h=>h)
theorem size_setCell (w:World) (a:Addr) (v:Value):(w.setCell a v).heap.size=w.heap.size:=by simp [World.setCell]
theorem zHl {w:World} 
 (s x:Operand) (t:TypeId) (ho:o.op=.call {callee:=.builtin .append,args:=#[s,x],argTypes:=#[t,t] } )
 {e:TypeId} (S:SlT P t e sz bytes) (a1:0<sz) {rd:World->List Value->α->Prop} {l:List α} (hs:a.eval s=v)
 (a9:qQb sz rd base e w v l) {m:List α} (D:a.eval x=xv) (aa:qQa sz rd B w xv m) (M:∀ cs y,y∈m->rd w cs y->∀ u∈cs,u.oneCell'=true)
 (N:(l.length+m.length)*bytes<=140737488355328) (a8:l.length+m.length<=9223372036854775807) (a5:base<=w.heap.size)
 (r:∀ w',w.grownBy w' v.ownBlock->∀ cs y,(y∈l∨y∈m)->rd w cs y->rd w' cs y)
 (h:∀ V w',qQb sz rd base e w' V (l++m)->w.grownBy w' v.ownBlock->(V=.slice none 0 0↔v=.slice none 0 0/\m=[])->qQ9 w v V->K (a.put o.dst V) w'):Oper.wp P o a w K Q:=by
 obtain ⟨a3,ae,T,hz,ab,hby,ad⟩:=S.info;obtain ⟨X,q1,I,J⟩:=a9;have a0:l.length+m.length<=maxLen:=by unfold maxLen;omega
 rcases aa with ⟨rfl,rfl⟩ | ⟨b,O,cap,rfl,c1,c2,c3⟩
 ·
  have z:(Builtin.append_ #[t,t] o.type #[v,.slice none 0 0]).run P w=.ok v w:=by
   have:=run_append_owned_none (P:=P) w base t o.type e a3 sz S.und T v l.length X.flatten J;exact this
  unfold Oper.wp execOp;simp only [ho,resolve,invoke,builtin,Sem.run_bind,Sem.run_pure,Result.andThen_ok,List.map_toArray,List.map_cons,List.map_nil,hs,D,z];exact (h v w ⟨X,by simpa using q1,by simpa using I,by simpa using J⟩ (World.grownBy.refl _ _) (by simp) (.inl rfl))
 ·
  have a6:∃ Y:List (List Value),Y.length=m.length/\(∀ k (H:k<m.length) (c:k<Y.length),Y[k].length=sz/\Cells w b (O+k*sz) Y[k]/\rd w Y[k] m[k]):=by
   clear h D r M N a8 a0;have:∀ n,n<=m.length->∃ Y:List (List Value),Y.length=n/\(∀ k (_:k<n) (H:k<m.length) (c:k<Y.length),Y[k].length=sz/\Cells w b (O+k*sz) Y[k]/\rd w Y[k] m[k]):=by
    intro n;induction n with
    | zero=>intro _;exact ⟨[],rfl,by omega⟩
    | succ n ih=>
      intro hn;obtain ⟨Y,i,f⟩:=ih (by omega);obtain ⟨_,cs,d1,d2,d3⟩:=c3 n (by omega);refine ⟨Y++[cs],by simp [i],?_⟩;intro k H a7 c;by_cases e1:k<n
      ·rw [List.getElem_append_left (by omega)];exact f k e1 a7 (by omega)
      ·obtain rfl:k=n:=(by omega);rw [List.getElem_append_right (by omega)];simp only [i,Nat.sub_self,List.getElem_cons_zero];exact ⟨d1,d2,d3⟩
   obtain ⟨Y,i,f⟩:=this m.length (Nat.le_refl _);exact ⟨Y,i,fun k H c=>f k H H c⟩
  obtain ⟨Y,i,f⟩:=a6;have a2:∀ y∈Y,y.length=sz:=by
   intro y F;obtain ⟨k,H,rfl⟩:=List.getElem_of_mem F;exact (f k (by omega) H).1
  have Z:Y.flatten.length=m.length*sz:=by rw [qKi a2,i]
  have a4:∀ j,(⟨b,O,none⟩:Addr).add j=⟨b,O+j,none⟩:=by intro j;unfold Addr.add;split <;> simp_all
  have hA:=qXh (P:=P) w base t o.type e a3 ae sz bytes S.und T hz ab hby ad a1 v l.length X.flatten J ⟨b,O,none⟩ m.length cap Y.flatten Z ?_ ?_ a0 N a5
  ·obtain ⟨V,w',z,o1,G,o3,o4⟩:=hA;unfold Oper.wp execOp;simp only [ho,resolve,invoke,builtin,Sem.run_bind,Sem.run_pure,Result.andThen_ok,List.map_toArray,List.map_cons,List.map_nil,hs,D,z];refine h V w' ?_ G (by rw [o3];simp) o4;exact qQb.snoc_of q1 (fun k H c=>⟨(I k H c).1,r w' G _ _ (.inl (List.getElem_mem H)) (I k H c).2⟩) i
    (fun k H c=>⟨(f k H c).1,r w' G _ _ (.inr (List.getElem_mem H)) (f k H c).2.2⟩) o1
  ·intro j u q;have hj:j<m.length*sz:=(by rw [<- Z];exact (List.getElem?_eq_some_iff.1 q).1);have H:j / sz<m.length:=Nat.div_lt_of_lt_mul (by rw [Nat.mul_comm];exact hj);have hr:j % sz<sz:=Nat.mod_lt _ a1;have U:j=j / sz*sz+j % sz:=(by rw [Nat.mul_comm];exact (Nat.div_add_mod j sz).symm);obtain ⟨z1,z2,z3⟩:=f (j / sz) H (by omega);have R:=qJy a2 (j / sz) (by omega) (j % sz) _ (List.getElem?_eq_getElem (by omega:j % sz<(Y[j / sz]'(by omega)).length));rw [<- U,q] at R;have:=z2 (j % sz) u (by rw [List.getElem?_eq_getElem (by omega:j % sz<(Y[j / sz]'(by omega)).length)];exact R.symm);rw [a4,U];rw [Nat.add_assoc] at this;exact this
  ·intro u q;obtain ⟨y,F,ac⟩:=List.mem_flatten.1 q;obtain ⟨k,H,rfl⟩:=List.getElem_of_mem F;exact M _ _ (List.getElem_mem (by omega)) (f k (by omega) H).2.2 u ac
theorem qYk {w:World} {E:Prop} (hg:o.guard=none)
 (s x:Operand) (t:TypeId) (r:o.op=.call {callee:=.builtin .append,args:=#[s,x],argTypes:=#[t,t] } )
 {e:TypeId} (S:SlT P t e sz bytes) (G:0<sz) {rd:World->List Value->α->Prop} {l:List α} (F:a.eval s=v)
 (z:qQb sz rd base e w v l) {m:List α} (I:a.eval x=xv) (D:qQa sz rd B w xv m) (H:∀ cs y,y∈m->rd w cs y->∀ u∈cs,u.oneCell'=true)
 (f:(l.length+m.length)*bytes<=140737488355328) (q:l.length+m.length<=9223372036854775807) (c:base<=w.heap.size)
 (i:∀ w',w.grownBy w' v.ownBlock->∀ cs y,(y∈l∨y∈m)->rd w cs y->rd w' cs y)
 (h:∀ V w',qQb sz rd base e w' V (l++m)->w.grownBy w' v.ownBlock->(V=.slice none 0 0↔v=.slice none 0 0/\m=[])->qQ9 w v V->K (a.put o.dst V) w'):if Region.wanted o (yielded ops a.tmps)=true then Oper.wp P o a w K Q else E:=by
 rw [if_pos (by simp [Region.wanted,hg])];exact zHl s x t r S G F z I D H f q c i h
theorem qQa.take {rd:World->List Value->α->Prop} {w:World} {o:Nat} {l:List α} (h:qQa sz rd B w (.slice (some ⟨b,o,none⟩) l.length cap) l) (n:Nat) (u:n<=l.length) :
 qQa sz rd B w (.slice (some ⟨b,o,none⟩) n cap) (l.take n):=by
 rcases qQa.cases h with ⟨h,_⟩ | ⟨r,O,s,H,t,c,f⟩
 ·simp at h
 ·simp at H;obtain ⟨⟨rfl,rfl⟩,rfl⟩:=H;have e:(l.take n).length=n:=by rw [List.length_take];omega
  refine .inr ⟨b,o,cap,by rw [e],by omega,c,fun i q=>?_⟩;rw [e] at q;have:=f i (by omega);rw [List.getElem_take];exact this
theorem qQa.drop {rd:World->List Value->α->Prop} {w:World} {o:Nat} {l:List α} (h:qQa sz rd B w (.slice (some ⟨b,o,none⟩) l.length cap) l) (n:Nat) (u:n<=l.length) :
 qQa sz rd B w (.slice (some ⟨b,o+n*sz,none⟩) (l.length - n) (cap - n)) (l.drop n):=by
 rcases qQa.cases h with ⟨h,_⟩ | ⟨q,O,r,H,s,t,c⟩
 ·simp at h
 ·simp at H;obtain ⟨⟨rfl,rfl⟩,rfl⟩:=H;refine .inr ⟨b,o+n*sz,cap - n,by rw [List.length_drop],by rw [List.length_drop];omega,by omega,fun i f=>?_⟩;rw [List.length_drop] at f;have:=c (n+i) (by omega);rw [List.getElem_drop,Nat.add_assoc,<- Nat.add_mul];exact this
theorem zJl:SlT Tryz.prog 92 166 2 32:=by
 refine ⟨by kernel_rfl,?_⟩;obtain ⟨i,h,H,c,f⟩:=info_parts (by kernel_rfl:(Tryz.prog.info? 166).map (fun i=>(i.zero,i.size,i.bytes))=some (some (.agg #[.string ⟨#[]⟩,.string ⟨#[]⟩]),2,32));exact ⟨i,_,h,H,c,f,rfl⟩
theorem zVy:∀ (w:World) (cs:List Value) (y:Att),qXi w cs y->∀ u∈cs,u.oneCell'=true:=by
 intro w cs y h u H;cases h;simp at H;rcases H with rfl | rfl <;> rfl
theorem qQb.drew {rd:World->List Value->α->Prop} {e:TypeId} {w:World} {l:List α} (hst:qHb rd) (h:qQb sz rd base e w v l):qQb sz rd base e w.drew v l:=h.agree (fun _ _=>rfl) (fun _ _ _ h=>hst _ _ _ _ h)
theorem qQa.nothing {rd:World->List Value->α->Prop} {w:World} {a:Addr} (ha:a.spot=none:=by rfl):qQa sz rd B w (.slice (some a) 0 0) []:=by
 obtain ⟨b,o,s⟩:=a;obtain rfl:s=none:=ha;exact .inr ⟨b,o,0,rfl,Nat.le_refl _,by omega,fun i h=>by simp at h⟩
theorem qQu {c:Code} (hE:E W) (h:∀ w,E w->c.wp P Q a w):c.wp P Q a W:=h W hE
section
variable {m A p:Nat} {d:Dc} {k before:Int} {w wc:World} {L:List Int} {xl xh xi:Bool} {xt xx:Txt} {xa:List Att} {xu:Int} {xk xs:List Int} {av kv sv yv:Value}
end
def qXa (w:World) (g:Nat) (l:List UInt8):Prop:=∀ j (h:j<l.length),w.cell? ⟨g,j,none⟩=some (.int .u8 (l[j].toNat:Int))/\w.frozen? ⟨g,j,none⟩=false
theorem qXa.cell {w:World} {g:Nat} {l:List UInt8} (h:qXa w g l) (H:j<l.length):w.cell? ⟨g,j,none⟩=some (.int .u8 (l[j].toNat:Int)):=(h j H).1
theorem qXa.mark {w:World} {g:Nat} {l:List UInt8} (h:qXa w g l) (H:j<l.length):w.frozen? ⟨g,j,none⟩=false:=(h j H).2
theorem qXa.agree {w w':World} {g:Nat} {l:List UInt8} (h:qXa w g l) (ha:w'.heap[g]?=w.heap[g]?):qXa w' g l:=
 fun j H=>⟨(World.cell?_of_block (w:=w) (a:=⟨g,j,none⟩) ha).trans (h j H).1,(World.frozen?_of_block (w:=w) (a:=⟨g,j,none⟩) ha).trans (h j H).2⟩
theorem zZp (w:World) (a:Addr) (v:Value) (b:Addr):(w.setCell a v).frozen? b=w.frozen? b:=by
 unfold World.frozen? World.setCell;simp only [Array.getElem?_modify];by_cases e:a.block=b.block
 ·rw [if_pos e];cases w.heap[b.block]? with
  | none=>rfl
  | some o=>cases o <;> rfl
 ·rw [if_neg e]
theorem qXa.store {w:World} {g:Nat} {l:List UInt8} (h:qXa w g l) {k:Nat} (q:k<l.length) (c:UInt8) (v:Value) (hv:v=.int .u8 (c.toNat:Int)):qXa (w.setCell ⟨g,k,none⟩ v) g (l.set k c):=by
 subst hv;intro j i;have f:j<l.length:=by simpa using i
 refine ⟨?_,by rw [zZp];exact (h j f).2⟩;by_cases e:j=k
 ·subst e;rw [List.getElem_set_self];have:=h.cell q;unfold World.cell? at this ⊢;unfold World.setCell;simp only [Array.getElem?_modify,if_true] at this ⊢;cases H:w.heap[g]? with
  | none=>rw [H] at this;cases this
  | some o=>
    rw [H] at this;cases o <;> simp_all
    rename_i C _ _;have t:j<C.size:=by
     rcases Nat.lt_or_ge j C.size with h | h
     ·exact h
     ·rw [Array.getElem?_eq_none h] at this;cases this
    simp [t]
 ·rw [List.getElem_set_ne (by omega)];have:=h.cell f;rw [<- this];unfold World.cell? World.setCell;simp only [Array.getElem?_modify,if_true];cases H:w.heap[g]? with
  | none=>rfl
  | some o=>
    cases o <;> simp
    rw [Array.getElem?_setIfInBounds_ne (by omega)]
theorem zQ0 {w:World} (hg:o.guard=none)
 (s D:TypeId) (x:Operand) (q:o.op=.convert s D x) {e:TypeId} (t:P.underlying s=some .string) (hd:P.underlying D=some (.slice e)) (f:P.underlying e=some (.int .u8))
 {l:List UInt8} (u:a.eval x=.string ⟨l.toArray⟩)
 (h:∀ cap w',qXa w' w.heap.size l->w.grownBy w' none->w'.heap.size=w.heap.size+1->wpList P ops Q rest (a.put o.dst (.slice (some ⟨w.heap.size,0,none⟩) l.length cap)) w'):wpList P ops Q (o::rest) a w:=by
 refine wpList_plain hg fun K c=>?_;have r:=Lib.run_convert_string_bytes (P:=P) w s D e ⟨l.toArray⟩ t hd f;have z:(ByteArray.mk l.toArray).size=l.length:=by simp [ByteArray.size]
 unfold Oper.wp execOp;simp only [q,Sem.run_bind,u,r,Result.andThen_ok];rw [z];refine c _ _ (h _ _ ?_ ⟨?_,?_,?_,?_,?_⟩ (Lib.bytesWorld_size w e _))
 ·intro j H;refine ⟨?_,?_⟩
  ·rw [Lib.bytesWorld_cell w e ⟨l.toArray⟩ j (by rw [z];exact H)];simp [List.getD,List.getElem?_eq_getElem H]
  ·unfold World.frozen?;rw [show (Lib.bytesWorld w e ⟨l.toArray⟩).heap[(⟨w.heap.size,j,none⟩:Addr).block]?=_ from Lib.bytesWorld_at_new w e ⟨l.toArray⟩];have:l.length<=(Lib.bytesCells w e ⟨l.toArray⟩).size:=(by unfold Lib.bytesCells;simp);simp;omega
 ·rfl
 ·rfl
 ·rfl
 ·rw [Lib.bytesWorld_size];omega
 ·intro k i _;exact Lib.bytesWorld_at_old w e _ k i
theorem zX8 {w:World} (hg:o.guard=none)
 (s D:TypeId) (x:Operand) (t:o.op=.convert s D x) {e:TypeId} (y:P.underlying s=some (.slice e)) (i:P.underlying e=some (.int .u8)) (hd:P.underlying D=some .string)
 {l:List UInt8} {g:Nat} (z:a.eval x=.slice (some ⟨g,0,none⟩) n cap) (r:n=l.length) (f:∀ j (h:j<l.length),w.cell? ⟨g,j,none⟩=some (.int .u8 (l[j].toNat:Int)))
 (h:wpList P ops Q rest (a.put o.dst (.string ⟨l.toArray⟩)) w):wpList P ops Q (o::rest) a w:=by
 subst r;refine wpList_plain hg fun K H=>?_;have u:=run_convert_bytes_back (P:=P) w s D e ⟨g,0,none⟩ cap l y i hd (fun j q=>by
  have c:(⟨g,0,none⟩:Addr).add j=⟨g,j,none⟩:=by unfold Addr.add;split <;> simp_all
  rw [c];exact f j q)
 unfold Oper.wp execOp;simp only [t,Sem.run_bind,z,u,Result.andThen_ok];exact H _ _ h
