import Derived.WalkKit
import Derived.Lib.Hide
import Derived.Deep.QuietTactic
namespace Go.Proofs.YtkhkbifdakikcaaGreatDoor
open Go.RowKit
variable {ops:Array Oper} {args:Array Value} {Q:Exit->Act->World->Prop} {xss:List (List Value)} {rest:List Oper} {cs:List Value} {b bytes cap i len n off:Nat} {C:Nat->Prop} {P:Program} {p:Prop} {xv:Value} {W a c w' w1:World}
def Hi (p:Prop):Prop:=p
theorem Hi.o (h:Hi p):p:=h
theorem Hi.out (h:Hi p):p:=h
theorem lH (h:p):Hi p:=h
theorem Za {a c:Nat} (h:a<=b) (k:b<=c):a<=c:=Nat.le_trans h k
theorem Zb (a:Nat):a<=a:=Nat.le_refl a
theorem Zc {a c:Nat} (h:a<b) (k:b<=c):a<c:=Nat.lt_of_lt_of_le h k
theorem Zd {α:Type} {a:α} {l:List α} :(a::l)[0]?=some a:=rfl
theorem Ze {α:Type} {a:α} {l:List α} :(a::l)[i+1]?=l[i]?:=rfl
theorem Zf {α:Type} {x a:α} {l:List α} :(x::l).set 0 a=a::l:=rfl
theorem Zg {α:Type} {x a:α} {l:List α} :(x::l).set (n+1) a=x::l.set n a:=rfl
theorem Zh {α:Type} {l:List α} {a:α} :l.toArray.setIfInBounds i a=(l.set i a).toArray:=List.setIfInBounds_toArray l i a
theorem Zi {α:Type} {l:List α} (h:i<l.length):l[i]?=some l[i]:=List.getElem?_eq_getElem h
theorem Zj {α:Type} {a b:List α} :(a++b).length=a.length+b.length:=List.length_append
theorem Zk {α:Type} {l:List α} (h:i<l.length):l.take (i+1)=l.take i++[l[i]]:=List.take_succ_eq_append_getElem h
theorem Zl {α:Type} {l:List α} (h:n<l.length):l[n]∈l:=List.getElem_mem h
theorem Zm {α:Type} {a:α} {l:List α} :(a::l).length=l.length+1:=rfl
theorem Zn {α:Type} {l:List α} (h:l.length<=i):l.take i=l:=List.take_of_length_le h
def qZt (B:Nat->Prop) (w w':World):Prop:=∀ b,B b->w'.heap[b]?=w.heap[b]?
theorem qZt.refl (B:Nat->Prop) (w:World):qZt B w w:=fun _ _=>rfl
theorem qZt.trans {B:Nat->Prop} {w d:World} (h:qZt B w w') (k:qZt B w' d):qZt B w d:=fun b H=>(k b H).trans (h b H)
theorem qZt.mono {B:Nat->Prop} {w:World} (h:qZt B w w') (d:∀ b,C b->B b):qZt C w w':=fun b H=>h b (d b H)
theorem qZt.below {w:World} (h:Below n w w'):qZt (·<n) w w':=fun b H=>h.block b H
theorem qZt.alloc {B:Nat->Prop} {w:World} (h:∀ b,B b->b<w.heap.size) (o:Obj):qZt B w (w.alloc o):=fun b H=>Below.heap_alloc w o b (h b H)
theorem qZt.drew {B:Nat->Prop} {w:World} :qZt B w w.drew:=fun _ _=>rfl
theorem qZt.setCell {B:Nat->Prop} {w:World} (a:Addr) (u:Value) (ha:¬ B a.block):qZt B w (w.setCell a u):=
 fun b h=>Below.heap_setCell w a u b (fun e=>ha (e▸h))
theorem qZt.grown {B:Nat->Prop} {w:World} {r:Option Nat} (hg:w.grownBy w' r) (h:∀ b,B b->b<w.heap.size/\some b≠r):qZt B w w':=
 fun b H=>hg.block b (h b H).1 (h b H).2
def Cells (w:World) (b off:Nat) (cs:List Value):Prop:=∀ j u,cs[j]?=some u->w.cell? ⟨b,off+j,none⟩=some u
theorem Cells.at {w:World} (h:Cells w b off cs) (j:Nat) (H:j<cs.length):w.cell? ⟨b,off+j,none⟩=some cs[j]:=h j _ (Zi H)
theorem Cells.agree {B:Nat->Prop} {w:World} (h:Cells w b off cs) (ha:qZt B w w') (H:B b):Cells w' b off cs:=
 fun j u d=>(World.cell?_of_block (w:=w) (ha b H)).trans (h j u d)
theorem Cells.lt {w:World} (h:Cells w b off cs) (H:cs≠[]):b<w.heap.size:=by
 cases cs with
 | nil=>simp at H
 | cons c r=>exact World.block_lt_of_cell? w _ (h 0 c rfl)
def qQa {α:Type} (sz:Nat) (rd:World->List Value->α->Prop) (B:Nat->Prop) (w:World) (v:Value) (l:List α):Prop:=
 (v=.slice none 0 0/\l=[]) ∨
 ∃ b off cap,v=.slice (some ⟨b,off,none⟩) l.length cap/\l.length<=cap/\cap<=9223372036854775807 /\
  ∀ i (h:i<l.length),B b/\∃ cs,cs.length=sz/\Cells w b (off+i*sz) cs/\rd w cs l[i]
section
variable {α:Type} {sz:Nat} {rd:World->List Value->α->Prop} {B:Nat->Prop} {w:World} {v:Value} {l:List α}
theorem qQa.nil:qQa sz rd B w (.slice none 0 0) []:=.inl ⟨rfl,rfl⟩
theorem qQa.mono (h:qQa sz rd B w v l) {rd':World->List Value->α->Prop} (q:∀ b,B b->C b) (r:∀ cs x,x∈l->rd w cs x->rd' w cs x):qQa sz rd' C w v l:=by
 rcases h with h | ⟨b,off,cap,j,k,m,o⟩
 ·exact .inl h
 ·exact .inr ⟨b,off,cap,j,k,m,fun i H=>let ⟨g,cs,G,d,f⟩:=o i H;⟨q _ g,cs,G,d,r _ _ (Zl H) f⟩⟩
theorem qQa.agree (h:qQa sz rd B w v l) (ha:qZt B w w') (r:∀ cs x,x∈l->rd w cs x->rd w' cs x):qQa sz rd B w' v l:=by
 rcases h with h | ⟨b,off,cap,j,k,m,o⟩
 ·exact .inl h
 ·exact .inr ⟨b,off,cap,j,k,m,fun i H=>let ⟨g,cs,G,d,f⟩:=o i H;⟨g,cs,G,d.agree ha g,r _ _ (Zl H) f⟩⟩
theorem qQa.tight (z:0<sz) (h:qQa sz rd B w v l):qQa sz rd (fun b=>B b/\b<w.heap.size) w v l:=by
 rcases h with h | ⟨b,off,cap,H,j,k,m⟩
 ·exact .inl h
 ·exact .inr ⟨b,off,cap,H,j,k,fun i o=>let ⟨d,cs,g,G,f⟩:=m i o;⟨⟨d,G.lt (by intro e;subst e;simp at g;omega)⟩,cs,g,G,f⟩⟩
theorem qQa.form (h:qQa sz rd B w v l):∃ a cap,v=.slice a l.length cap/\l.length<=cap/\cap<=9223372036854775807:=by
 rcases h with ⟨h,rfl⟩ | ⟨b,off,cap,H,d,f,g⟩
 ·exact ⟨none,0,h,by simp,by omega⟩
 ·exact ⟨_,cap,H,d,f⟩
theorem Rf (h:qQa sz rd B w v l):∃ a cap,v=.slice a l.length cap/\l.length<=cap/\cap<=9223372036854775807:=qQa.form h
theorem qQa.elem (h:qQa sz rd B w v l) (i:Nat) (H:i<l.length):∃ b off cap cs,v=.slice (some ⟨b,off,none⟩) l.length cap/\B b/\cs.length=sz/\Cells w b (off+i*sz) cs/\rd w cs l[i]:=by
 rcases h with ⟨h,rfl⟩ | ⟨b,off,cap,j,m,o,k⟩
 ·simp at H
 ·obtain ⟨g,cs,G,d,f⟩:=k i H;exact ⟨b,off,cap,cs,j,g,G,d,f⟩
theorem qQa.cases (h:qQa sz rd B w v l):(v=.slice none 0 0/\l=[]) ∨
 ∃ b off cap,v=.slice (some ⟨b,off,none⟩) l.length cap/\l.length<=cap/\cap<=9223372036854775807 /\
 ∀ i (h:i<l.length),B b/\∃ cs,cs.length=sz/\Cells w b (off+i*sz) cs/\rd w cs l[i]:=h
end
def qQf:World->List Value->Int->Prop:=fun _ cs n=>cs=[.int .i64 n]
def qHg:World->List Value->List UInt8->Prop:=fun _ cs s=>cs=[.string ⟨s.toArray⟩]
abbrev IntsAt:=qQa 1 qQf
abbrev zDa:=qQa 1 qHg
theorem qQa.int_cell {B:Nat->Prop} {w:World} {l:List Int} (h:IntsAt B w (.slice (some ⟨b,off,none⟩) len cap) l) (i:Nat) (g:i<l.length):w.cell? ⟨b,off+i,none⟩=some (.int .i64 l[i]):=by
 obtain ⟨j,o,k,cs,H,_,m,d,f⟩:=h.elem i g;simp at H;obtain ⟨⟨rfl,rfl⟩,_,_⟩:=H;cases f;simpa using d.at 0 (by simp)
theorem qQa.str_cell {B:Nat->Prop} {w:World} {l:List (List UInt8)} (h:zDa B w (.slice (some ⟨b,off,none⟩) len cap) l) (i:Nat) (g:i<l.length):w.cell? ⟨b,off+i,none⟩=some (.string ⟨l[i].toArray⟩):=by
 obtain ⟨j,o,k,cs,H,_,m,d,f⟩:=h.elem i g;simp at H;obtain ⟨⟨rfl,rfl⟩,_,_⟩:=H;cases f;simpa using d.at 0 (by simp)
structure SlT (P:Program) (t e:TypeId) (sz bytes:Nat):Prop where
 und:P.underlying t=some (.slice e)
 info:∃ i z,P.info? e=some i/\i.zero=some z/\i.size=sz/\i.bytes=bytes/\z.cells.size=sz
def qQb {α:Type} (sz:Nat) (rd:World->List Value->α->Prop) (base:Nat) (e:TypeId) (w:World) (v:Value) (l:List α):Prop:=
 ∃ xss:List (List Value),xss.length=l.length/\(∀ i (h:i<l.length) (h':i<xss.length),xss[i].length=sz/\rd w xss[i] l[i])/\w.ownsRow base e sz v l.length xss.flatten
theorem qKe {sz:Nat} (h:∀ x∈xss,x.length=sz):xss.flatten.length=xss.length*sz:=by
 induction xss with
 | nil=>simp
 | cons x r I=>
   have:=I (fun y H=>h y (List.mem_cons_of_mem _ H));simp only [List.flatten_cons,Zj,this,Zm,h x (by simp),Nat.add_mul];omega
theorem qJt {sz:Nat} (h:∀ x∈xss,x.length=sz) (i:Nat) (d:i<xss.length) (j:Nat) (u:Value) (H:xss[i][j]?=some u):xss.flatten[i*sz+j]?=some u:=by
 induction xss generalizing i with
 | nil=>simp at d
 | cons x r I=>
   have f:=h x (by simp);cases i with
   | zero=>
     simp only [List.getElem_cons_zero] at H;have g:j<x.length:=(List.getElem?_eq_some_iff.1 H).1;simp [List.getElem?_append_left g,H]
   | succ i=>
     simp only [List.getElem_cons_succ] at H;rw [List.flatten_cons,List.getElem?_append_right (by rw [f,Nat.add_mul];omega)];rw [show (i+1)*sz+j - x.length=i*sz+j by rw [f,Nat.add_mul];omega];exact I (fun y k=>h y (List.mem_cons_of_mem _ k)) i (by simpa using d) H
section
variable {α:Type} {sz:Nat} {rd:World->List Value->α->Prop} {base:Nat} {e:TypeId} {w:World} {v:Value} {l:List α}
theorem qQb.nil (w:World) (base:Nat) (e:TypeId):qQb sz rd base e w (.slice none 0 0) ([]:List α):=⟨[],rfl,by simp,World.ownsRow_nil _ _ _ _⟩
theorem qQb.row (h:qQb sz rd base e w v l):qQa sz rd (fun b=>base<=b/\b<w.heap.size/\v.ownBlock=some b) w v l:=by
 obtain ⟨xss,D,d,f⟩:=h;have k:∀ x∈xss,x.length=sz:=by
  intro x k;obtain ⟨i,H,rfl⟩:=List.getElem_of_mem k;exact (d i (by omega) H).1
 have s:=fun g hg=>f.cells (g:=g) hg;have t:=f.lt;rcases f.2 with ⟨rfl,y⟩ | ⟨g,cap,A,rfl,o,hg,q,r,E,F⟩
 ·exact .inl ⟨rfl,List.eq_nil_of_length_eq_zero y⟩
 ·refine .inr ⟨g,0,cap,rfl,q,by unfold maxLen at r;omega,fun i H=>⟨⟨o,(t g rfl).2,rfl⟩,xss[i]'(by omega),(d i H (by omega)).1,?_,(d i H (by omega)).2⟩⟩;intro j u z;have:=s g rfl (i*sz+j) u (qJt k i (by omega) j u z);have m:(⟨g,0,none⟩:Addr).add (i*sz+j)=⟨g,0+i*sz+j,none⟩:=by unfold Addr.add;split <;> simp_all
  rw [m] at this;simpa using this
theorem qQb.lt (h:qQb sz rd base e w v l):∀ k,v.ownBlock=some k->base<=k/\k<w.heap.size:=by
 obtain ⟨xss,d,f,H⟩:=h;exact H.lt
theorem qQb.grown {r:Option Nat} (h:qQb sz rd base e w v l) (hg:w.grownBy w' r) (k:v.ownBlock=none∨v.ownBlock≠r) (m:∀ cs x,x∈l->rd w cs x->rd w' cs x):qQb sz rd base e w' v l:=by
 obtain ⟨xss,g,d,j⟩:=h;exact ⟨xss,g,fun i H f=>⟨(d i H f).1,m _ _ (Zl H) (d i H f).2⟩,j.kept hg k⟩
theorem qJz {w:World} {base:Nat} {e:TypeId} {s:Nat} {v:Value} {xs:List Value} (h:w.ownsRow base e s v n xs) (ha:∀ b,v.ownBlock=some b->w'.heap[b]?=w.heap[b]?):w'.ownsRow base e s v n xs:=by
 refine ⟨h.1,?_⟩;rcases h.2 with f | ⟨g,cap,d,rfl,H,hg,r⟩
 ·exact .inl f
 ·exact .inr ⟨g,cap,d,rfl,H,(ha g rfl).trans hg,r⟩
theorem qQb.agree (h:qQb sz rd base e w v l) (ha:∀ b,v.ownBlock=some b->w'.heap[b]?=w.heap[b]?) (r:∀ cs x,x∈l->rd w cs x->rd w' cs x):qQb sz rd base e w' v l:=by
 obtain ⟨xss,g,d,j⟩:=h;exact ⟨xss,g,fun i H f=>⟨(d i H f).1,r _ _ (Zl H) (d i H f).2⟩,qJz j ha⟩
theorem qQb.below (h:qQb sz rd base e w v l) (H:Below n w w') (f:w.heap.size<=n) (r:∀ cs x,x∈l->rd w cs x->rd w' cs x):qQb sz rd base e w' v l:=
 h.agree (fun b d=>H.block b (Zc (h.lt b d).2 f)) r
theorem qQb.base_le (h:qQb sz rd base e w v l) {base':Nat} (o:base'<=base):qQb sz rd base' e w v l:=by
 obtain ⟨xss,H,f,j,k⟩:=h;refine ⟨xss,H,f,j,?_⟩;rcases k with m | ⟨g,cap,d,rfl,q,r⟩
 ·exact .inl m
 ·exact .inr ⟨g,cap,d,rfl,by omega,r⟩
theorem qQb.snoc_of {V:Value} {yss:List (List Value)} {m:List α} (f:xss.length=l.length) (j:∀ i (h:i<l.length) (d:i<xss.length),xss[i].length=sz/\rd w' xss[i] l[i])
 (g:yss.length=m.length) (G:∀ i (h:i<m.length) (d:i<yss.length),yss[i].length=sz/\rd w' yss[i] m[i])
 (k:w'.ownsRow base e sz V (l.length+m.length) (xss.flatten++yss.flatten)):qQb sz rd base e w' V (l++m):=by
 refine ⟨xss++yss,by simp [f,g],?_,by simpa using k⟩;intro i H o;by_cases c:i<l.length
 ·rw [List.getElem_append_left c,List.getElem_append_left (by omega)];exact j i c (by omega)
 ·rw [List.getElem_append_right (by omega),List.getElem_append_right (by omega)];have E:i - xss.length=i - l.length:=by omega
  simp only [E];exact G _ (by simp at H;omega) (by simp at H;omega)
end
def qZc (w:World) (v v':Value):Prop:=v'.ownBlock=v.ownBlock∨∃ k,v'.ownBlock=some k/\w.heap.size<=k
theorem qYn (w:World) (base:Nat) (t T e:TypeId) (i:TypeInfo) (z:Value) (s bytes:Nat) (q:P.underlying t=some (.slice e)) (f:P.info? e=some i) (F:i.zero=some z)
 (o:i.size=s) (hby:i.bytes=bytes) (K:z.cells.size=s) (J:0<s)
 (v:Value) (n:Nat) (xs:List Value) (d:w.ownsRow base e s v n xs)
 (a:Addr) (m c:Nat) (N:List Value) (H:N.length=m*s) (k:∀ j u,N[j]?=some u->w.cell? (a.add j)=some u) (y:∀ u∈N,u.oneCell'=true)
 (A:n+m<=maxLen) (D:(n+m)*bytes<=140737488355328) (U:base<=w.heap.size) :
 ∃ V w',(Builtin.append_ #[t,t] T #[v,.slice (some a) m c]).run P w=.ok V w'/\w'.ownsRow base e s V (n+m) (xs++N)/\w.grownBy w' v.ownBlock /\
  (V=.slice none 0 0↔v=.slice none 0 0/\m=0)/\qZc w v V:=by
 obtain ⟨V,w',r,M,R,S⟩:=run_append_own (P:=P) w base t T e i z s bytes q f F o hby K J v n xs d a m c N H k y A D U
 refine ⟨V,w',r,M,R,S,?_⟩
 have hs:n+m<=9223372036854775807:=by simpa [maxLen] using A
 rcases d.2 with ⟨rfl,rfl⟩ | ⟨g,cap,x,rfl,G,hg,a1,a0,X,a2⟩
 ·have Z:xs=[]:=List.eq_nil_of_length_eq_zero (by simpa using d.1)
  subst Z
  obtain ⟨v2,w2,E,O,-,-⟩:=run_append_own (P:=P) w w.heap.size t T e i z s bytes q f F o hby K J (.slice none 0 0) 0 [] (World.ownsRow_nil w _ e s) a m c N H k y A D (Zb _)
  rw [r] at E
  simp at E
  obtain ⟨rfl,rfl⟩:=E
  rcases O.2 with ⟨rfl,_⟩ | ⟨g,cap,x,rfl,G,_⟩
  ·exact .inl rfl
  ·exact .inr ⟨g,rfl,G⟩
 ·by_cases I:n+m<=cap
  ·subst o
   have Y:n*i.size+N.length<=x.size:=by rw [H,X,<- Nat.add_mul];exact Nat.mul_le_mul_right _ I
   have h:=run_append_room (P:=P) w t T e i q f g n cap x hg a m c N H k y I Y
   rw [r] at h
   simp at h
   rw [h.1]
   exact .inl rfl
  ·subst o
   subst hby
   have holds:∀ j u,xs[j]?=some u->w.cell? ((⟨g,0,none⟩:Addr).add j)=some u:=d.cells (g:=g) rfl
   have h:=run_append_grow (P:=P) w t T e i z q f F ⟨g,0,none⟩ n cap xs d.1 holds a m c N H k (by omega) (by omega) (growslice_fits (by omega) D)
   rw [r] at h
   simp at h
   rw [h.1]
   exact .inr ⟨_,rfl,Zb _⟩
theorem qZe {w:World} {o:Oper} {a:Act} (hg:o.guard=none)
 (s x:Operand) (t:TypeId) (U:o.op=.call {callee:=.builtin .append,args:=#[s,x],argTypes:=#[t,t] } )
 {e:TypeId} {sz:Nat} (S:SlT P t e sz bytes) (Z:0<sz) {α:Type} {rd:World->List Value->α->Prop} {base:Nat} {v:Value} {l:List α} (X:a.eval s=v)
 (a7:qQb sz rd base e w v l) {m:List α} {B:Nat->Prop} (A:a.eval x=xv) (a8:qQa sz rd B w xv m) (G:∀ cs y,y∈m->rd w cs y->∀ u∈cs,u.oneCell'=true)
 (I:(l.length+m.length)*bytes<=140737488355328) (a6:l.length+m.length<=9223372036854775807) (a3:base<=w.heap.size)
 (r:∀ w',w.grownBy w' v.ownBlock->∀ cs y,(y∈l∨y∈m)->rd w cs y->rd w' cs y)
 (h:∀ V w',qQb sz rd base e w' V (l++m)->w.grownBy w' v.ownBlock->(V=.slice none 0 0↔v=.slice none 0 0/\m=[])->qZc w v V->wpList P ops Q rest (a.put o.dst V) w'):wpList P ops Q (o::rest) a w:=by
 obtain ⟨i,ac,M,hz,a9,hby,ab⟩:=S.info;obtain ⟨xss,q1,E,F⟩:=a7;have T:l.length+m.length<=maxLen:=by unfold maxLen;omega
 rcases a8 with ⟨rfl,rfl⟩ | ⟨b,off,cap,rfl,c1,c2,c3⟩
 ·
  refine wpList_plain hg fun a1 K=>?_;have z:(Builtin.append_ #[t,t] o.type #[v,.slice none 0 0]).run P w=.ok v w:=by
   have:=run_append_owned_none (P:=P) w base t o.type e i sz S.und M v l.length xss.flatten F;exact this
  unfold Oper.wp execOp;simp only [U,resolve,invoke,builtin,Sem.run_bind,Sem.run_pure,Result.andThen_ok,List.map_toArray,List.map_cons,List.map_nil,X,A,z];exact K _ _ (h v w ⟨xss,by simpa using q1,by simpa using E,by simpa using F⟩ (World.grownBy.refl _ _) (by simp) (.inl rfl))
 ·
  have a4:∃ Y:List (List Value),Y.length=m.length/\(∀ k (H:k<m.length) (d:k<Y.length),Y[k].length=sz/\Cells w b (off+k*sz) Y[k]/\rd w Y[k] m[k]):=by
   clear h A r G I a6 T;have:∀ n,n<=m.length->∃ Y:List (List Value),Y.length=n/\(∀ k (_:k<n) (H:k<m.length) (d:k<Y.length),Y[k].length=sz/\Cells w b (off+k*sz) Y[k]/\rd w Y[k] m[k]):=by
    intro n;induction n with
    | zero=>intro _;exact ⟨[],rfl,by omega⟩
    | succ n ih=>
      intro hn;obtain ⟨Y,g,f⟩:=ih (by omega);obtain ⟨_,cs,d1,d2,d3⟩:=c3 n (by omega);refine ⟨Y++[cs],by simp [g],?_⟩;intro k H a5 d;by_cases e1:k<n
      ·rw [List.getElem_append_left (by omega)];exact f k e1 a5 (by omega)
      ·obtain rfl:k=n:=(by omega);rw [List.getElem_append_right (by omega)];simp only [g,Nat.sub_self,List.getElem_cons_zero];exact ⟨d1,d2,d3⟩
   obtain ⟨Y,g,f⟩:=this m.length (Zb _);exact ⟨Y,g,fun k H d=>f k H H d⟩
  obtain ⟨Y,g,f⟩:=a4;have a0:∀ y∈Y,y.length=sz:=by
   intro y D;obtain ⟨k,H,rfl⟩:=List.getElem_of_mem D;exact (f k (by omega) H).1
  have R:Y.flatten.length=m.length*sz:=by rw [qKe a0,g]
  have a2:∀ j,(⟨b,off,none⟩:Addr).add j=⟨b,off+j,none⟩:=by intro j;unfold Addr.add;split <;> simp_all
  have hA:=qYn (P:=P) w base t o.type e i ac sz bytes S.und M hz a9 hby ab Z v l.length xss.flatten F ⟨b,off,none⟩ m.length cap Y.flatten R ?_ ?_ T I a3
  ·refine wpList_plain hg fun a1 K=>?_;obtain ⟨V,w',z,o1,O,o3,o4⟩:=hA;unfold Oper.wp execOp;simp only [U,resolve,invoke,builtin,Sem.run_bind,Sem.run_pure,Result.andThen_ok,List.map_toArray,List.map_cons,List.map_nil,X,A,z];refine K _ _ (h V w' ?_ O (by rw [o3];simp) o4);exact qQb.snoc_of q1 (fun k H d=>⟨(E k H d).1,r w' O _ _ (.inl (Zl H)) (E k H d).2⟩) g
    (fun k H d=>⟨(f k H d).1,r w' O _ _ (.inr (Zl H)) (f k H d).2.2⟩) o1
  ·intro j u q;have hj:j<m.length*sz:=(by rw [<- R];exact (List.getElem?_eq_some_iff.1 q).1);have H:j / sz<m.length:=Nat.div_lt_of_lt_mul (by rw [Nat.mul_comm];exact hj);have hr:j % sz<sz:=Nat.mod_lt _ Z;have N:j=j / sz*sz+j % sz:=(by rw [Nat.mul_comm];exact (Nat.div_add_mod j sz).symm);obtain ⟨z1,z2,z3⟩:=f (j / sz) H (by omega);have J:=qJt a0 (j / sz) (by omega) (j % sz) _ (Zi (by omega:j % sz<(Y[j / sz]'(by omega)).length));rw [<- N,q] at J;have:=z2 (j % sz) u (by rw [Zi (by omega:j % sz<(Y[j / sz]'(by omega)).length)];exact J.symm);rw [a2,N];rw [Nat.add_assoc] at this;exact this
  ·intro u q;obtain ⟨y,D,aa⟩:=List.mem_flatten.1 q;obtain ⟨k,H,rfl⟩:=List.getElem_of_mem D;exact G _ _ (Zl (by omega)) (f k (by omega) H).2.2 u aa
theorem zBw {w:World} {o:Oper} {a:Act} (hg:o.guard=none)
 (s x:Operand) (t:TypeId) (k:o.op=.call {callee:=.builtin .append,args:=#[s,x],argTypes:=#[t,t] } )
 {e:TypeId} {sz:Nat} (S:SlT P t e sz bytes) (A:0<sz) {α:Type} {rd:World->List Value->α->Prop} {base:Nat} {v:Value} {l:List α} (z:a.eval s=v)
 (q:qQb sz rd base e w v l) {m:List α} {B:Nat->Prop} (D:a.eval x=xv) (r:qQa sz rd B w xv m) (H:∀ cs y,y∈m->rd w cs y->∀ u∈cs,u.oneCell'=true)
 (f:(l.length+m.length)*bytes<=140737488355328) (j:l.length+m.length<=9223372036854775807) (d:base<=w.heap.size)
 (g:∀ w',w.grownBy w' v.ownBlock->∀ cs y,(y∈l∨y∈m)->rd w cs y->rd w' cs y)
 (h:∀ V w',qQb sz rd base e w' V (l++m)->w.grownBy w' v.ownBlock->(V=.slice none 0 0↔v=.slice none 0 0/\m=[])->wpList P ops Q rest (a.put o.dst V) w'):wpList P ops Q (o::rest) a w:=
 qZe hg s x t k S A z q D r H f j d g fun V w' a b c _=>h V w' a b c
theorem qJv {α:Type} {sz:Nat} {rd:World->List Value->α->Prop} (w:World) (cs:List Value) (e:TypeId) (x:α) (H:cs.length=sz) (r:rd (w.alloc (.cells cs.toArray e)) cs x) :
 qQa sz rd (·=w.heap.size) (w.alloc (.cells cs.toArray e)) (.slice (some ⟨w.heap.size,0,none⟩) 1 1) [x]:=by
 refine .inr ⟨w.heap.size,0,1,rfl,by simp,by omega,?_⟩;intro i h;obtain rfl:i=0:=by simpa using h
 refine ⟨rfl,cs,H,?_,r⟩;intro j u d;rw [cell_of_row _ w.heap.size _ cs.toArray e (0,0) (heap_alloc_new w _)];simpa using d
def qHo {α:Type} (rd:World->List Value->α->Prop):Prop:=∀ w w' cs x,rd w cs x->rd w' cs x
theorem qQc:qHo qQf:=fun _ _ _ _ h=>h
theorem qXd:qHo qHg:=fun _ _ _ _ h=>h
theorem qQl {b:World} {r:Option Nat} (h:a.grownBy b r) (k:b.grownBy c r):a.grownBy c r:=
 ⟨k.os.trans h.os,k.tape.trans h.tape,k.output.trans h.output,Za h.size k.size,fun i H d=>(k.block i (Zc H h.size) d).trans (h.block i H d)⟩
theorem qQb.alloc {α:Type} {sz:Nat} {rd:World->List Value->α->Prop} {base:Nat} {e:TypeId} {w:World} {v:Value} {l:List α} (h:qQb sz rd base e w v l) (hst:qHo rd) (o:Obj):qQb sz rd base e (w.alloc o) v l:=
 h.agree (fun b H=>Below.heap_alloc w o b (h.lt b H).2) (fun _ _ _ r=>hst _ _ _ _ r)
theorem qQa.later {α:Type} {sz m:Nat} {rd:World->List Value->α->Prop} {w:World} {v:Value} {l:List α} (h:qQa sz rd (·<n) w v l) (hst:qHo rd) (H:Below m w w') (d:n<=m):qQa sz rd (·<n) w' v l:=
 h.agree (qZt.mono (qZt.below H) (fun _ H=>Zc H d)) (fun _ _ _ r=>hst _ _ _ _ r)
theorem qQb.read {α:Type} {sz base:Nat} {e:TypeId} {rd:World->List Value->α->Prop} {w:World} {v:Value} {l:List α} (h:qQb sz rd base e w v l):qQa sz rd (·<w.heap.size) w v l:=
 h.row.mono (fun _ H=>H.2.1) (fun _ _ _ r=>r)
theorem Below.own {α:Type} {sz:Nat} {rd:World->List Value->α->Prop} {e:TypeId} {w:World} {B:Nat} {v:Value} {l:List α} (h:Below B a w) (H:B<=a.heap.size) (o:qQb sz rd B e w v l) (hg:w.grownBy w' v.ownBlock):Below B a w':=
 h.grown hg (Za H h.size) (fun k d=>(o.lt k d).1)
theorem qK4 {w:World} {o:Oper} {a:Act} (hg:o.guard=none)
 (s x:Operand) (t:TypeId) (r:o.op=.call {callee:=.builtin .append,args:=#[s,x],argTypes:=#[t,t] } )
 {e:TypeId} {sz:Nat} (S:SlT P t e sz bytes) (D:0<sz) {α:Type} {rd:World->List Value->α->Prop} (hst:qHo rd) (j:∀ w cs y,rd w cs y->∀ u∈cs,u.oneCell'=true)
 {base:Nat} {v:Value} {l:List α} (A:a.eval s=v) (z:qQb sz rd base e w v l) {C:Array Value} {E:TypeId} {g:Nat} (F:a.eval x=.slice (some ⟨g,0,none⟩) 1 1) (hgs:g=w.heap.size) (y:α)
 (hC:C.size=sz/\rd w C.toList y) (m:(l.length+1)*bytes<=140737488355328) (q:l.length+1<=9223372036854775807) (G:base<=w.heap.size)
 (h:∀ V w',qQb sz rd base e w' V (l++[y])->w.grownBy w' v.ownBlock->wpList P ops Q rest (a.put o.dst V) w'):wpList P ops Q (o::rest) a (w.alloc (.cells C E)):=by
 subst hgs;have d:=qJv (rd:=rd) (sz:=sz) w C.toList E y (by simpa using hC.1) (hst _ _ _ _ hC.2);simp only [Array.toArray_toList] at d;refine zBw hg s x t r S D A (z.alloc hst _) F d (fun cs Y _ H=>j _ _ _ H) (by simpa using m) (by simpa using q) (by simp;omega) (fun w' _ cs Y _ H=>hst _ _ _ _ H) ?_;intro V w' f k _;exact h V w' f (qQl (World.grownBy_alloc w _ _) k)
theorem qKq:∀ (w:World) (cs:List Value) (y:Int),qQf w cs y->∀ u∈cs,u.oneCell'=true:=by
 intro w cs y h u H;cases h;simp at H;subst H;rfl
theorem zJz:∀ (w:World) (cs:List Value) (y:List UInt8),qHg w cs y->∀ u∈cs,u.oneCell'=true:=by
 intro w cs y h u H;cases h;simp at H;subst H;rfl
theorem byte_at {s:List UInt8} {k:Nat} {d:k<s.length} {c:UInt8} (H:c=s[k]):∀ h:k<(ByteArray.mk s.toArray).size,(ByteArray.mk s.toArray)[k]'h=c:=fun _=>H.symm
def Drew (w w':World):Prop:=∃ n,w'=w.drewN n
theorem Drew.refl (w:World):Drew w w:=⟨0,rfl⟩
theorem Drew.more {w:World} (h:Drew w w') (n:Nat):Drew w (w'.drewN n):=by
 obtain ⟨m,rfl⟩:=h;exact ⟨m+n,by rw [World.drewN_drewN]⟩
theorem Drew.below {w:World} (h:Drew w w') (n:Nat):Below n w w':=by
 obtain ⟨m,rfl⟩:=h;exact ⟨rfl,rfl,rfl,Zb _,fun _ _=>rfl⟩
def Rv (v:Value) (w:World):Ending->World->Prop:=fun e w'=>e=.returned v/\w=w'
def Rb (v:Value) (w:World):Ending->World->Prop:=fun e w'=>e=.returned v/\Below w.heap.size w w'
def Rn (w:World) (R:World->Value->Prop):Ending->World->Prop:=fun e w'=>Below w.heap.size w w'/\∃ v,e=.returned v/\R w' v
theorem Rv.rb {v:Value} {w:World} {e:Ending} (h:Rv v w e w'):Rb v w e w':=⟨h.1,h.2▸Below.refl _ _⟩
abbrev Bel (a w:World):Prop:=Below a.heap.size a w
theorem Bel.alloc {w:World} (h:Bel a w) (o:Obj):Bel a (w.alloc o):=Below.alloc h h.size o
theorem Bel.then {b:World} (h:Bel a b) (k:Bel b c):Bel a c:=Below.trans h (Below.mono k h.size)
theorem Bt {b:World} (h:Bel a b) (k:Bel b c):Bel a c:=Bel.then h k
theorem Bel.refl (a:World):Bel a a:=Below.refl _ _
theorem Br (a:World):Bel a a:=Bel.refl a
theorem Bel.cells (H:Bel W w1):∀ b o,b<W.heap.size->w1.cell? ⟨b,o,none⟩=W.cell? ⟨b,o,none⟩:=fun b o h=>H.cell (p:=⟨b,o,none⟩) h
theorem Bel.marks (H:Bel W w1):∀ b o,b<W.heap.size->w1.frozen? ⟨b,o,none⟩=W.frozen? ⟨b,o,none⟩:=fun b o h=>H.frozen (p:=⟨b,o,none⟩) h
theorem qJo {a b:Bool} (h:a=b):Ending.returned (.bool a)=.returned (.bool b):=by rw [h]
theorem qQr {a b:Int} (h:a=b):Ending.returned (.int .i64 a)=.returned (.int .i64 b):=by rw [h]
theorem zGc {a b:List UInt8} (h:a=b):Ending.returned (.string ⟨a.toArray⟩)=.returned (.string ⟨b.toArray⟩):=by rw [h]
theorem qQe {f:FuncId} {w:World} {v:Value} {Q:Ending->World->Prop} (c:Calls P f args W (Rb v W)) (h:Hi (Bel w W)) (k:∀ d,Hi (Bel w d)->Q (.returned v) d):Calls P f args W Q:=c.mono (fun _ d H=>H.1▸k d (lH (Bt h.o H.2)))
theorem qJ7 {f:FuncId} {v:Value} {Q:Ending->World->Prop} (c:Calls P f args W (Rb v W)) (k:∀ d,Hi (Bel W d)->Q (.returned v) d):Calls P f args W Q:=c.mono (fun _ d h=>h.1▸k d (lH h.2))
