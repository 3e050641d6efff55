/- append, as a step of a region that draws its order; slices of slices. -/
import Derived.Test.YtklbmkaomojciaaGreatRefTake
import Derived.Deep.RegionLaw
import Derived.OwnWalk
import Derived.Lib.ConvBytes
namespace Go.Proofs.YtklbmkaomojciaaGreat
open Go.RowKit
theorem zWv {P:Program} {w:World} {o:Oper} {a:Act} {K:Act->World->Prop} {Q:Exit->Act->World->Prop}
 (s x:Operand) (t:TypeId) (ho:o.op=.call { callee:=.builtin .append,args:=#[s,x],argTypes:=#[t,t] })
 {e:TypeId} {sz bytes:Nat} (S:SlT P t e sz bytes) (hsz:0<sz) {α:Type} {rd:World->List Value->α->Prop} {base:Nat} {v:Value} {l:List α} (hs:a.eval s=v)
 (hown:qQb sz rd base e w v l) {xv:Value} {m:List α} {B:Nat->Prop} (hx:a.eval x=xv) (hrow:qQa sz rd B w xv m) (h1c:∀ cs y,y∈m->rd w cs y->∀ u∈cs,u.oneCell'=true)
 (hbytes:(l.length+m.length)*bytes<=140737488355328) (hmax:l.length+m.length<=9223372036854775807) (hbase:base<=w.heap.size)
 (hkeep:∀ w',w.grownBy w' v.ownBlock->∀ cs y,(y∈l∨y∈m)->rd w cs y->rd w' cs y)
 (h:∀ v' w',qQb sz rd base e w' v' (l++m)->w.grownBy w' v.ownBlock->(v'=.slice none 0 0↔v=.slice none 0 0/\m=[])->qZe w v v'->K (a.put o.dst v') w'):Oper.wp P o a w K Q:=by
 obtain ⟨i,z,hi,hz,hsize,hby,hzs⟩:=S.info
 obtain ⟨xss,q1,q2,q3⟩:=hown
 have hmax':l.length+m.length<=maxLen:=by unfold maxLen;omega
 rcases hrow with ⟨rfl,rfl⟩ | ⟨b,off,cap,rfl,c1,c2,c3⟩
 ·
  have hrun:(Builtin.append_ #[t,t] o.type #[v,.slice none 0 0]).run P w=.ok v w:=by
   have:=run_append_owned_none (P:=P) w base t o.type e i sz S.und hi v l.length xss.flatten q3
   exact this
  unfold Oper.wp execOp
  simp only [ho,resolve,invoke,builtin,Sem.run_bind,Sem.run_pure,Result.andThen_ok,List.map_toArray,List.map_cons,List.map_nil,hs,hx,hrun]
  exact (h v w ⟨xss,by simpa using q1,by simpa using q2,by simpa using q3⟩ (World.grownBy.refl _ _) (by simp) (.inl rfl))
 ·
  have hex:∃ yss:List (List Value),yss.length=m.length/\(∀ k (hk:k<m.length) (hk':k<yss.length),yss[k].length=sz/\Cells w b (off+k*sz) yss[k]/\rd w yss[k] m[k]):=by
   clear h hx hkeep h1c hbytes hmax hmax'
   have:∀ n,n<=m.length->∃ yss:List (List Value),yss.length=n/\(∀ k (_:k<n) (hk:k<m.length) (hk':k<yss.length),yss[k].length=sz/\Cells w b (off+k*sz) yss[k]/\rd w yss[k] m[k]):=by
    intro n
    induction n with
    | zero=>intro _;exact ⟨[],rfl,by omega⟩
    | succ n ih=>
      intro hn
      obtain ⟨yss,y1,y2⟩:=ih (by omega)
      obtain ⟨_,cs,d1,d2,d3⟩:=c3 n (by omega)
      refine ⟨yss++[cs],by simp [y1],?_⟩
      intro k hk hkm hk'
      by_cases e1:k<n
      ·rw [List.getElem_append_left (by omega)];exact y2 k e1 hkm (by omega)
      ·obtain rfl:k=n:=by omega
       rw [List.getElem_append_right (by omega)]
       simp only [y1,Nat.sub_self,List.getElem_cons_zero]
       exact ⟨d1,d2,d3⟩
   obtain ⟨yss,y1,y2⟩:=this m.length (Nat.le_refl _)
   exact ⟨yss,y1,fun k hk hk'=>y2 k hk hk hk'⟩
  obtain ⟨yss,y1,y2⟩:=hex
  have hyl:∀ y∈yss,y.length=sz:=by
   intro y hy
   obtain ⟨k,hk,rfl⟩:=List.getElem_of_mem hy
   exact (y2 k (by omega) hk).1
  have hlen:yss.flatten.length=m.length*sz:=by rw [qJ2 hyl,y1]
  have hadd:∀ j,(⟨b,off,none⟩:Addr).add j=⟨b,off+j,none⟩:=by intro j;unfold Addr.add;split <;> simp_all
  have hA:=qYn (P:=P) w base t o.type e i z sz bytes S.und hi hz hsize hby hzs hsz v l.length xss.flatten q3 ⟨b,off,none⟩ m.length cap yss.flatten hlen ?_ ?_ hmax' hbytes hbase
  ·obtain ⟨v',w',hrun,o1,o2,o3,o4⟩:=hA
   unfold Oper.wp execOp
   simp only [ho,resolve,invoke,builtin,Sem.run_bind,Sem.run_pure,Result.andThen_ok,List.map_toArray,List.map_cons,List.map_nil,hs,hx,hrun]
   refine h v' w' ?_ o2 (by rw [o3];simp) o4
   exact qQb.snoc_of q1 (fun k hk hk'=>⟨(q2 k hk hk').1,hkeep w' o2 _ _ (.inl (List.getElem_mem hk)) (q2 k hk hk').2⟩) y1
    (fun k hk hk'=>⟨(y2 k hk hk').1,hkeep w' o2 _ _ (.inr (List.getElem_mem hk)) (y2 k hk hk').2.2⟩) o1
  ·intro j u hu
   have hj:j<m.length*sz:=by rw [<- hlen];exact (List.getElem?_eq_some_iff.1 hu).1
   have hk:j / sz<m.length:=Nat.div_lt_of_lt_mul (by rw [Nat.mul_comm];exact hj)
   have hr:j % sz<sz:=Nat.mod_lt _ hsz
   have hj2:j=j / sz*sz+j % sz:=by rw [Nat.mul_comm];exact (Nat.div_add_mod j sz).symm
   obtain ⟨z1,z2,z3⟩:=y2 (j / sz) hk (by omega)
   have hget:=qJ9 hyl (j / sz) (by omega) (j % sz) _ (List.getElem?_eq_getElem (by omega:j % sz<(yss[j / sz]'(by omega)).length))
   rw [<- hj2,hu] at hget
   have:=z2 (j % sz) u (by rw [List.getElem?_eq_getElem (by omega:j % sz<(yss[j / sz]'(by omega)).length)];exact hget.symm)
   rw [hadd,hj2]
   rw [Nat.add_assoc] at this
   exact this
  ·intro u hu
   obtain ⟨y,hy,huy⟩:=List.mem_flatten.1 hu
   obtain ⟨k,hk,rfl⟩:=List.getElem_of_mem hy
   exact h1c _ _ (List.getElem_mem (by omega)) (y2 k (by omega) hk).2.2 u huy
theorem qYc {P:Program} {w:World} {o:Oper} {a:Act} {K:Act->World->Prop} {Q:Exit->Act->World->Prop} {E:Prop} {ops:Array Oper} (hg:o.guard=none)
 (s x:Operand) (t:TypeId) (ho:o.op=.call { callee:=.builtin .append,args:=#[s,x],argTypes:=#[t,t] })
 {e:TypeId} {sz bytes:Nat} (S:SlT P t e sz bytes) (hsz:0<sz) {α:Type} {rd:World->List Value->α->Prop} {base:Nat} {v:Value} {l:List α} (hs:a.eval s=v)
 (hown:qQb sz rd base e w v l) {xv:Value} {m:List α} {B:Nat->Prop} (hx:a.eval x=xv) (hrow:qQa sz rd B w xv m) (h1c:∀ cs y,y∈m->rd w cs y->∀ u∈cs,u.oneCell'=true)
 (hbytes:(l.length+m.length)*bytes<=140737488355328) (hmax:l.length+m.length<=9223372036854775807) (hbase:base<=w.heap.size)
 (hkeep:∀ w',w.grownBy w' v.ownBlock->∀ cs y,(y∈l∨y∈m)->rd w cs y->rd w' cs y)
 (h:∀ v' w',qQb sz rd base e w' v' (l++m)->w.grownBy w' v.ownBlock->(v'=.slice none 0 0↔v=.slice none 0 0/\m=[])->qZe w v v'->K (a.put o.dst v') w'):if Region.wanted o (yielded ops a.tmps)=true then Oper.wp P o a w K Q else E:=by
 rw [if_pos (by simp [Region.wanted,hg])]
 exact zWv s x t ho S hsz hs hown hx hrow h1c hbytes hmax hbase hkeep h
theorem qQa.take {α:Type} {sz:Nat} {rd:World->List Value->α->Prop} {B:Nat->Prop} {w:World} {b o cap:Nat} {l:List α} (h:qQa sz rd B w (.slice (some ⟨b,o,none⟩) l.length cap) l) (n:Nat) (hn:n<=l.length) :
 qQa sz rd B w (.slice (some ⟨b,o,none⟩) n cap) (l.take n):=by
 rcases qQa.cases h with ⟨h,_⟩ | ⟨b',o',c',h1,h2,h3,h4⟩
 ·simp at h
 ·simp at h1
  obtain ⟨⟨rfl,rfl⟩,rfl⟩:=h1
  have e:(l.take n).length=n:=by rw [List.length_take];omega
  refine .inr ⟨b,o,cap,by rw [e],by omega,h3,fun i hi=>?_⟩
  rw [e] at hi
  have:=h4 i (by omega)
  rw [List.getElem_take]
  exact this
theorem qQa.drop {α:Type} {sz:Nat} {rd:World->List Value->α->Prop} {B:Nat->Prop} {w:World} {b o cap:Nat} {l:List α} (h:qQa sz rd B w (.slice (some ⟨b,o,none⟩) l.length cap) l) (n:Nat) (hn:n<=l.length) :
 qQa sz rd B w (.slice (some ⟨b,o+n*sz,none⟩) (l.length - n) (cap - n)) (l.drop n):=by
 rcases qQa.cases h with ⟨h,_⟩ | ⟨b',o',c',h1,h2,h3,h4⟩
 ·simp at h
 ·simp at h1
  obtain ⟨⟨rfl,rfl⟩,rfl⟩:=h1
  refine .inr ⟨b,o+n*sz,cap - n,by rw [List.length_drop],by rw [List.length_drop];omega,by omega,fun i hi=>?_⟩
  rw [List.length_drop] at hi
  have:=h4 (n+i) (by omega)
  rw [List.getElem_drop,Nat.add_assoc,<- Nat.add_mul]
  exact this
theorem zZj:SlT Tryz.prog 63 106 2 32:=by
 refine ⟨by kernel_rfl,?_⟩
 obtain ⟨i,h1,h2,h3,h4⟩:=info_parts (by kernel_rfl:(Tryz.prog.info? 106).map (fun i=>(i.zero,i.size,i.bytes))=some (some (.agg #[.string ⟨#[]⟩,.string ⟨#[]⟩]),2,32))
 exact ⟨i,_,h1,h2,h3,h4,rfl⟩
theorem zXr:∀ (w:World) (cs:List Value) (y:Att),qK5 w cs y->∀ u∈cs,u.oneCell'=true:=by
 intro w cs y h u hu;cases h;simp at hu;rcases hu with rfl | rfl <;> rfl
theorem qQb.drew {α:Type} {sz:Nat} {rd:World->List Value->α->Prop} {base:Nat} {e:TypeId} {w:World} {v:Value} {l:List α} (hst:qBk rd) (h:qQb sz rd base e w v l):qQb sz rd base e w.drew v l:=h.agree (fun _ _=>rfl) (fun _ _ _ h=>hst _ _ _ _ h)
theorem qQa.nothing {α:Type} {sz:Nat} {rd:World->List Value->α->Prop} {B:Nat->Prop} {w:World} {a:Addr} (ha:a.spot=none:=by rfl):qQa sz rd B w (.slice (some a) 0 0) []:=by
 obtain ⟨b,o,s⟩:=a
 obtain rfl:s=none:=ha
 exact .inr ⟨b,o,0,rfl,Nat.le_refl _,by omega,fun i hi=>by simp at hi⟩
theorem qQq {P:Program} {c:Code} {Q:Exit->Act->World->Prop} {a:Act} {W:World} {E:World->Prop} (hE:E W) (h:∀ w,E w->c.wp P Q a w):c.wp P Q a W:=h W hE
section
variable {m A p:Nat} {d:Dc} {k before:Int} {w wc:World} {L:List Int} {xl xh xi:Bool} {xt xx:Txt} {xa:List Att} {xu:Int} {xk xs:List Int} {av kv sv yv:Value}
end
def qKs (w:World) (g:Nat) (l:List UInt8):Prop:=∀ j (h:j<l.length),w.cell? ⟨g,j,none⟩=some (.int .u8 (l[j].toNat:Int))/\w.frozen? ⟨g,j,none⟩=false
theorem qKs.cell {w:World} {g:Nat} {l:List UInt8} (h:qKs w g l) {j:Nat} (hj:j<l.length):w.cell? ⟨g,j,none⟩=some (.int .u8 (l[j].toNat:Int)):=(h j hj).1
theorem qKs.mark {w:World} {g:Nat} {l:List UInt8} (h:qKs w g l) {j:Nat} (hj:j<l.length):w.frozen? ⟨g,j,none⟩=false:=(h j hj).2
theorem qKs.agree {w w':World} {g:Nat} {l:List UInt8} (h:qKs w g l) (ha:w'.heap[g]?=w.heap[g]?):qKs w' g l:=
 fun j hj=>⟨(World.cell?_of_block (w:=w) (a:=⟨g,j,none⟩) ha).trans (h j hj).1,(World.frozen?_of_block (w:=w) (a:=⟨g,j,none⟩) ha).trans (h j hj).2⟩
theorem qD4 (w:World) (a:Addr) (v:Value) (b:Addr):(w.setCell a v).frozen? b=w.frozen? b:=by
 unfold World.frozen? World.setCell
 simp only [Array.getElem?_modify]
 by_cases e:a.block=b.block
 ·rw [if_pos e]
  cases w.heap[b.block]? with
  | none=>rfl
  | some o=>cases o <;> rfl
 ·rw [if_neg e]
theorem qKs.store {w:World} {g:Nat} {l:List UInt8} (h:qKs w g l) {k:Nat} (hk:k<l.length) (c:UInt8) (v:Value) (hv:v=.int .u8 (c.toNat:Int)):qKs (w.setCell ⟨g,k,none⟩ v) g (l.set k c):=by
 subst hv
 intro j hj
 have hj':j<l.length:=by simpa using hj
 refine ⟨?_,by rw [qD4];exact (h j hj').2⟩
 by_cases e:j=k
 ·subst e
  rw [List.getElem_set_self]
  have:=h.cell hk
  unfold World.cell? at this ⊢
  unfold World.setCell
  simp only [Array.getElem?_modify,if_true] at this ⊢
  cases ho:w.heap[g]? with
  | none=>rw [ho] at this;cases this
  | some o=>
    rw [ho] at this
    cases o <;> simp_all
    rename_i C _ _
    have hlt:j<C.size:=by
     rcases Nat.lt_or_ge j C.size with h | h
     ·exact h
     ·rw [Array.getElem?_eq_none h] at this;cases this
    simp [hlt]
 ·rw [List.getElem_set_ne (by omega)]
  have:=h.cell hj'
  rw [<- this]
  unfold World.cell? World.setCell
  simp only [Array.getElem?_modify,if_true]
  cases ho:w.heap[g]? with
  | none=>rfl
  | some o=>
    cases o <;> simp
    rw [Array.getElem?_setIfInBounds_ne (by omega)]
theorem qFe {P:Program} {w:World} {ops:Array Oper} {rest:List Oper} {o:Oper} {a:Act} {Q:Exit->Act->World->Prop} (hg:o.guard=none)
 (src dst:TypeId) (x:Operand) (ho:o.op=.convert src dst x) {e:TypeId} (hs:P.underlying src=some .string) (hd:P.underlying dst=some (.slice e)) (he:P.underlying e=some (.int .u8))
 {l:List UInt8} (hx:a.eval x=.string ⟨l.toArray⟩)
 (h:∀ cap w',qKs w' w.heap.size l->w.grownBy w' none->w'.heap.size=w.heap.size+1->wpList P ops Q rest (a.put o.dst (.slice (some ⟨w.heap.size,0,none⟩) l.length cap)) w'):wpList P ops Q (o::rest) a w:=by
 refine wpList_plain hg fun K hK=>?_
 have hrun:=Lib.run_convert_string_bytes (P:=P) w src dst e ⟨l.toArray⟩ hs hd he
 have hsz:(ByteArray.mk l.toArray).size=l.length:=by simp [ByteArray.size]
 unfold Oper.wp execOp
 simp only [ho,Sem.run_bind,hx,hrun,Result.andThen_ok]
 rw [hsz]
 refine hK _ _ (h _ _ ?_ ⟨?_,?_,?_,?_,?_⟩ (Lib.bytesWorld_size w e _))
 ·intro j hj
  refine ⟨?_,?_⟩
  ·rw [Lib.bytesWorld_cell w e ⟨l.toArray⟩ j (by rw [hsz];exact hj)]
   simp [List.getD,List.getElem?_eq_getElem hj]
  ·unfold World.frozen?
   rw [show (Lib.bytesWorld w e ⟨l.toArray⟩).heap[(⟨w.heap.size,j,none⟩:Addr).block]?=_ from Lib.bytesWorld_at_new w e ⟨l.toArray⟩]
   have:l.length<=(Lib.bytesCells w e ⟨l.toArray⟩).size:=by unfold Lib.bytesCells;simp
   simp
   omega
 ·rfl
 ·rfl
 ·rfl
 ·rw [Lib.bytesWorld_size];omega
 ·intro k hk _
  exact Lib.bytesWorld_at_old w e _ k hk
theorem zK0 {P:Program} {w:World} {ops:Array Oper} {rest:List Oper} {o:Oper} {a:Act} {Q:Exit->Act->World->Prop} (hg:o.guard=none)
 (src dst:TypeId) (x:Operand) (ho:o.op=.convert src dst x) {e:TypeId} (hs:P.underlying src=some (.slice e)) (he:P.underlying e=some (.int .u8)) (hd:P.underlying dst=some .string)
 {l:List UInt8} {g n cap:Nat} (hx:a.eval x=.slice (some ⟨g,0,none⟩) n cap) (hn:n=l.length) (hc:∀ j (h:j<l.length),w.cell? ⟨g,j,none⟩=some (.int .u8 (l[j].toNat:Int)))
 (h:wpList P ops Q rest (a.put o.dst (.string ⟨l.toArray⟩)) w):wpList P ops Q (o::rest) a w:=by
 subst hn
 refine wpList_plain hg fun K hK=>?_
 have hrun:=run_convert_bytes_back (P:=P) w src dst e ⟨g,0,none⟩ cap l hs he hd (fun j hj=>by
  have hadd:(⟨g,0,none⟩:Addr).add j=⟨g,j,none⟩:=by unfold Addr.add;split <;> simp_all
  rw [hadd];exact hc j hj)
 unfold Oper.wp execOp
 simp only [ho,Sem.run_bind,hx,hrun,Result.andThen_ok]
 exact hK _ _ h
end Go.Proofs.YtklbmkaomojciaaGreat
