/- append, as a step of a region that draws its order; slices of slices. -/
import Derived.Test.YtklbmkaomojciaaGreatBlk
import Derived.Deep.RegionLaw
namespace Go.Proofs.YtklbmkaomojciaaGreat
open Go.RowKit
theorem qD5 {P:Program} {w:World} {o:Oper} {a:Act} {K:Act->World->Prop} {Q:Exit->Act->World->Prop}
 (s x:Operand) (t:TypeId) (ho:o.op=.call { callee:=.builtin .append,args:=#[s,x],argTypes:=#[t,t] })
 {e:TypeId} {sz bytes:Nat} (S:SlT P t e sz bytes) (hsz:0<sz) {α:Type} {rd:World->List Value->α->Prop} {base:Nat} {v:Value} {l:List α} (hs:a.eval s=v)
 (hown:qQg sz rd base e w v l) {xv:Value} {m:List α} {B:Nat->Prop} (hx:a.eval x=xv) (hrow:qQb sz rd B w xv m) (h1c:∀ cs y,y∈m->rd w cs y->∀ u∈cs,u.oneCell'=true)
 (hbytes:(l.length+m.length)*bytes<=140737488355328) (hmax:l.length+m.length<=9223372036854775807) (hbase:base<=w.heap.size)
 (hkeep:∀ w',w.grownBy w' v.ownBlock->∀ cs y,(y∈l∨y∈m)->rd w cs y->rd w' cs y)
 (h:∀ v' w',qQg sz rd base e w' v' (l++m)->w.grownBy w' v.ownBlock->(v'=.slice none 0 0↔v=.slice none 0 0/\m=[])->qJ6 w v v'->K (a.put o.dst v') w'):Oper.wp P o a w K Q:=by
 obtain ⟨i,z,hi,hz,hsize,hby,hzs⟩:=S.info
 obtain ⟨xss,q1,q2,q3⟩:=hown
 have hmax':l.length+m.length<=maxLen:=by unfold maxLen;omega
 rcases hrow with ⟨rfl,rfl⟩ | ⟨b,off,cap,rfl,c1,c2,c3⟩
 ·
  have hrun:(Builtin.append_ #[t,t] o.type #[v,.slice none 0 0]).run P w=.ok v w:=by
   have:=run_append_owned_none (P:=P) w base t o.type e i sz S.und hi v l.length xss.flatten q3
   exact this
  unfold Oper.wp execOp
  simp only [ho,resolve,invoke,builtin,Sem.run_bind,Sem.run_pure,Result.andThen_ok,List.map_toArray,List.map_cons,List.map_nil,hs,hx,hrun]
  exact (h v w ⟨xss,by simpa using q1,by simpa using q2,by simpa using q3⟩ (World.grownBy.refl _ _) (by simp) (.inl rfl))
 ·
  have hex:∃ yss:List (List Value),yss.length=m.length/\(∀ k (hk:k<m.length) (hk':k<yss.length),yss[k].length=sz/\Cells w b (off+k*sz) yss[k]/\rd w yss[k] m[k]):=by
   clear h hx hkeep h1c hbytes hmax hmax'
   have:∀ n,n<=m.length->∃ yss:List (List Value),yss.length=n/\(∀ k (_:k<n) (hk:k<m.length) (hk':k<yss.length),yss[k].length=sz/\Cells w b (off+k*sz) yss[k]/\rd w yss[k] m[k]):=by
    intro n
    induction n with
    | zero=>intro _;exact ⟨[],rfl,by omega⟩
    | succ n ih=>
      intro hn
      obtain ⟨yss,y1,y2⟩:=ih (by omega)
      obtain ⟨_,cs,d1,d2,d3⟩:=c3 n (by omega)
      refine ⟨yss++[cs],by simp [y1],?_⟩
      intro k hk hkm hk'
      by_cases e1:k<n
      ·rw [List.getElem_append_left (by omega)];exact y2 k e1 hkm (by omega)
      ·obtain rfl:k=n:=by omega
       rw [List.getElem_append_right (by omega)]
       simp only [y1,Nat.sub_self,List.getElem_cons_zero]
       exact ⟨d1,d2,d3⟩
   obtain ⟨yss,y1,y2⟩:=this m.length (Zb _)
   exact ⟨yss,y1,fun k hk hk'=>y2 k hk hk hk'⟩
  obtain ⟨yss,y1,y2⟩:=hex
  have hyl:∀ y∈yss,y.length=sz:=by
   intro y hy
   obtain ⟨k,hk,rfl⟩:=List.getElem_of_mem hy
   exact (y2 k (by omega) hk).1
  have hlen:yss.flatten.length=m.length*sz:=by rw [qZn hyl,y1]
  have hadd:∀ j,(⟨b,off,none⟩:Addr).add j=⟨b,off+j,none⟩:=by intro j;unfold Addr.add;split <;> simp_all
  have hA:=qKx (P:=P) w base t o.type e i z sz bytes S.und hi hz hsize hby hzs hsz v l.length xss.flatten q3 ⟨b,off,none⟩ m.length cap yss.flatten hlen ?_ ?_ hmax' hbytes hbase
  ·obtain ⟨v',w',hrun,o1,o2,o3,o4⟩:=hA
   unfold Oper.wp execOp
   simp only [ho,resolve,invoke,builtin,Sem.run_bind,Sem.run_pure,Result.andThen_ok,List.map_toArray,List.map_cons,List.map_nil,hs,hx,hrun]
   refine h v' w' ?_ o2 (by rw [o3];simp) o4
   exact qQg.snoc_of q1 (fun k hk hk'=>⟨(q2 k hk hk').1,hkeep w' o2 _ _ (.inl (Zl hk)) (q2 k hk hk').2⟩) y1
    (fun k hk hk'=>⟨(y2 k hk hk').1,hkeep w' o2 _ _ (.inr (Zl hk)) (y2 k hk hk').2.2⟩) o1
  ·intro j u hu
   have hj:j<m.length*sz:=by rw [<- hlen];exact (List.getElem?_eq_some_iff.1 hu).1
   have hk:j / sz<m.length:=Nat.div_lt_of_lt_mul (by rw [Nat.mul_comm];exact hj)
   have hr:j % sz<sz:=Nat.mod_lt _ hsz
   have hj2:j=j / sz*sz+j % sz:=by rw [Nat.mul_comm];exact (Nat.div_add_mod j sz).symm
   obtain ⟨z1,z2,z3⟩:=y2 (j / sz) hk (by omega)
   have hget:=qZo hyl (j / sz) (by omega) (j % sz) _ (Zi (by omega:j % sz<(yss[j / sz]'(by omega)).length))
   rw [<- hj2,hu] at hget
   have:=z2 (j % sz) u (by rw [Zi (by omega:j % sz<(yss[j / sz]'(by omega)).length)];exact hget.symm)
   rw [hadd,hj2]
   rw [Nat.add_assoc] at this
   exact this
  ·intro u hu
   obtain ⟨y,hy,huy⟩:=List.mem_flatten.1 hu
   obtain ⟨k,hk,rfl⟩:=List.getElem_of_mem hy
   exact h1c _ _ (Zl (by omega)) (y2 k (by omega) hk).2.2 u huy
theorem qQy {P:Program} {w:World} {o:Oper} {a:Act} {K:Act->World->Prop} {Q:Exit->Act->World->Prop} {E:Prop} {ops:Array Oper} (hg:o.guard=none)
 (s x:Operand) (t:TypeId) (ho:o.op=.call { callee:=.builtin .append,args:=#[s,x],argTypes:=#[t,t] })
 {e:TypeId} {sz bytes:Nat} (S:SlT P t e sz bytes) (hsz:0<sz) {α:Type} {rd:World->List Value->α->Prop} {base:Nat} {v:Value} {l:List α} (hs:a.eval s=v)
 (hown:qQg sz rd base e w v l) {xv:Value} {m:List α} {B:Nat->Prop} (hx:a.eval x=xv) (hrow:qQb sz rd B w xv m) (h1c:∀ cs y,y∈m->rd w cs y->∀ u∈cs,u.oneCell'=true)
 (hbytes:(l.length+m.length)*bytes<=140737488355328) (hmax:l.length+m.length<=9223372036854775807) (hbase:base<=w.heap.size)
 (hkeep:∀ w',w.grownBy w' v.ownBlock->∀ cs y,(y∈l∨y∈m)->rd w cs y->rd w' cs y)
 (h:∀ v' w',qQg sz rd base e w' v' (l++m)->w.grownBy w' v.ownBlock->(v'=.slice none 0 0↔v=.slice none 0 0/\m=[])->qJ6 w v v'->K (a.put o.dst v') w'):if Region.wanted o (yielded ops a.tmps)=true then Oper.wp P o a w K Q else E:=by
 rw [if_pos (by simp [Region.wanted,hg])]
 exact qD5 s x t ho S hsz hs hown hx hrow h1c hbytes hmax hbase hkeep h
theorem qQb.take {α:Type} {sz:Nat} {rd:World->List Value->α->Prop} {B:Nat->Prop} {w:World} {b o cap:Nat} {l:List α} (h:qQb sz rd B w (.slice (some ⟨b,o,none⟩) l.length cap) l) (n:Nat) (hn:n<=l.length) :
 qQb sz rd B w (.slice (some ⟨b,o,none⟩) n cap) (l.take n):=by
 rcases qQb.cases h with ⟨h,_⟩ | ⟨b',o',c',h1,h2,h3,h4⟩
 ·simp at h
 ·simp at h1
  obtain ⟨⟨rfl,rfl⟩,rfl⟩:=h1
  have e:(l.take n).length=n:=by rw [List.length_take];omega
  refine .inr ⟨b,o,cap,by rw [e],by omega,h3,fun i hi=>?_⟩
  rw [e] at hi
  have:=h4 i (by omega)
  rw [List.getElem_take]
  exact this
theorem qQb.drop {α:Type} {sz:Nat} {rd:World->List Value->α->Prop} {B:Nat->Prop} {w:World} {b o cap:Nat} {l:List α} (h:qQb sz rd B w (.slice (some ⟨b,o,none⟩) l.length cap) l) (n:Nat) (hn:n<=l.length) :
 qQb sz rd B w (.slice (some ⟨b,o+n*sz,none⟩) (l.length - n) (cap - n)) (l.drop n):=by
 rcases qQb.cases h with ⟨h,_⟩ | ⟨b',o',c',h1,h2,h3,h4⟩
 ·simp at h
 ·simp at h1
  obtain ⟨⟨rfl,rfl⟩,rfl⟩:=h1
  refine .inr ⟨b,o+n*sz,cap - n,by rw [List.length_drop],by rw [List.length_drop];omega,by omega,fun i hi=>?_⟩
  rw [List.length_drop] at hi
  have:=h4 (n+i) (by omega)
  rw [List.getElem_drop,Nat.add_assoc,<- Nat.add_mul]
  exact this
end Go.Proofs.YtklbmkaomojciaaGreat
