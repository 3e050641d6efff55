/- A plain change: what comes of it is the same document but for a text, or attributes that are only told. -/
import Derived.Test.YtklbmkaomojciaaGreatDocLaws
namespace Go.Proofs.YtklbmkaomojciaaGreat
def qJh (x:Chg):Bool:=x.kind==7||((x.kind==5||x.kind==6)&&qJl.contains x.name)
theorem qJf {d:Dc} {a b:Int} (h:a.toNat=b.toNat):nd d a=nd d b:=by unfold nd;rw [h]
theorem qDe {n v s:Txt} (hs:s≠n):∀ l:List Att,qZk (insA n v l) s=qZk l s:=by
 have hn:((⟨n,v⟩:Att).name==s)=false:=by simpa using fun e:n=s=>hs e.symm
 intro l
 induction l with
 | nil=>
   unfold insA qZk
   rw [List.find?_cons,hn]
 | cons a l ih=>
   unfold insA
   split
   ·rename_i h
    have ha:(a.name==s)=false:=by simpa using fun e:a.name=s=>hs (e.symm.trans h)
    unfold qZk
    rw [List.find?_cons,List.find?_cons,hn,ha]
   ·split
    ·unfold qZk at ih ⊢
     rw [List.find?_cons,List.find?_cons]
     cases h:(a.name==s) with
     | true=>rfl
     | false=>exact ih
    ·unfold qZk
     rw [List.find?_cons,hn]
theorem qGj {n s:Txt} (hs:s≠n):∀ l:List Att,qZk (l.filter (fun a=>a.name != n)) s=qZk l s:=by
 intro l
 induction l with
 | nil=>rfl
 | cons a l ih=>
   unfold qZk at ih ⊢
   rw [List.filter_cons]
   split
   ·rw [List.find?_cons,List.find?_cons]
    cases h:(a.name==s) with
    | true=>rfl
    | false=>exact ih
   ·rename_i h
    have h:a.name=n:=by simpa using h
    have ha:(a.name==s)=false:=by simpa using fun e:a.name=s=>hs (e.symm.trans h)
    rw [List.find?_cons,ha]
    exact ih
theorem qGs {d y:Dc} {k:Int} {X:Nd} (g:Good d) (gy:Good y) (hk:isM d k false=true) (hy:∀ n,nd y n=nd (qQn d k.toNat X) n)
 (hl:X.live=(nd d k).live) (ht:X.tag=(nd d k).tag) (hu:X.up=(nd d k).up) (hkd:X.kids=(nd d k).kids) (hh:X.hasS=(nd d k).hasS) (hsh:X.shadow=(nd d k).shadow) (hi:X.inS=(nd d k).inS)
 (ha:∀ s,s∉qJl->qZk X.attrs s=qZk (nd d k).attrs s):SameBut d y k:=by
 have hkl:=qZs hk
 have hw:∀ n,nd y n=if n.toNat=k.toNat then X else nd d n:=fun n=>by rw [hy,qXd (by omega)]
 have live:∀ n,(nd y n).live=(nd d n).live:=fun n=>by
  rw [hw];split
  ·rename_i h;rw [hl,qJf h]
  ·rfl
 have tag:∀ n,(nd y n).tag=(nd d n).tag:=fun n=>by
  rw [hw];split
  ·rename_i h;rw [ht,qJf h]
  ·rfl
 have len:y.length=d.length:=by
  have key:∀ {a b:Dc},Good a->(∃ r,G0 qQj 16 r b)->(∀ n,(nd a n).live=(nd b n).live)->a.length<=b.length:=by
   intro a b ga hb H
   obtain ⟨r,h0⟩:=hb
   rcases ga.last with h1 | h1
   ·have:=h0.pos;omega
   ·have h2:=qQf.1 h1
    rw [H] at h2
    have:=(qZs (qQf.2 h2)).1
    omega
  exact Nat.le_antisymm (key gy g.tree live) (key g gy.tree (fun n=>(live n).symm))
 refine ⟨len,live,tag,?_,?_,?_,?_,?_,?_,?_⟩
 ·intro n;rw [hw];split
  ·rename_i h;rw [hu,qJf h]
  ·rfl
 ·intro n;rw [hw];split
  ·rename_i h;rw [hkd,qJf h]
  ·rfl
 ·intro n;rw [hw];split
  ·rename_i h;rw [hh,qJf h]
  ·rfl
 ·intro n;rw [hw];split
  ·rename_i h;rw [hsh,qJf h]
  ·rfl
 ·intro n;rw [hw];split
  ·rename_i h;rw [hi,qJf h]
  ·rfl
 ·intro n s hs
  have e:isM y n true=isM d n true:=by
   unfold isM
   rw [len,live,tag]
  unfold qKr
  rw [e]
  split
  ·rw [hw];split
   ·rename_i h;rw [ha s hs,qJf h]
   ·rfl
  ·rfl
 ·intro n h0 hn
  rw [hw,if_neg (by omega)]
theorem qD0 {d:Dc} {x:Chg} (g:Good d) (he:(qQ1 d x).1=0) (hp:qJh x=true):SameBut d (qQ1 d x).2.2 x.node/\isM d x.node false=true/\(qQ1 d x).2.1=x.node:=by
 have gy:=qWv g he
 revert he gy
 unfold qQ1
 split
 ·intro he;simp at he
 ·rename_i c1
  split
  ·intro he;simp at he
  ·rename_i c2
   have hk:isM d x.node false=true:=by simpa using c2
   split
   ·rename_i c3
    intro _ gy
    dsimp only at gy ⊢
    obtain ⟨⟨r,g1⟩,_⟩:=qXc g hk c3
    have ht:=g1.trim.1
    have hin:qJl.contains x.name=true->∀ s,s∉qJl->s≠x.name:=fun h s hs e=>hs (by rw [e];simpa using h)
    generalize hD:qK2 (qQ4 d x).2.2=D at *
    unfold qQ4 at c3 ht ⊢
    unfold qJh at hp
    simp only [Bool.or_eq_true,Bool.and_eq_true,beq_iff_eq] at hp
    rcases hp with h7 | ⟨h5 | h6,hn⟩
    ·simp only [h7,show ¬ ((7:Int)=3) by decide,show ¬ ((7:Int)=4) by decide,if_false,if_true] at c3 ht ⊢
     unfold sayM at c3 ht ⊢
     split at c3
     ·simp at c3
     ·rename_i c4
      rw [if_neg c4] at ht ⊢
      exact ⟨qGs g gy hk ht rfl rfl rfl rfl rfl rfl rfl (fun _ _=>rfl),hk,rfl⟩
    ·simp only [h5,show ¬ ((5:Int)=3) by decide,show ¬ ((5:Int)=4) by decide,show ¬ ((5:Int)=7) by decide,if_false,if_true] at c3 ht ⊢
     split at c3
     ·simp at c3
     ·rename_i c4
      rw [if_neg c4] at ht ⊢
      unfold qZw at c3 ht ⊢
      split at c3
      ·simp at c3
      ·rename_i c5
       rw [if_neg c5] at ht ⊢
       split at c3
       ·simp at c3
       ·rename_i c6
        rw [if_neg c6] at ht ⊢
        split at c3
        ·simp at c3
        ·rename_i c7
         rw [if_neg c7] at ht ⊢
         obtain ⟨r0,g0⟩:=g.tree
         refine ⟨qGs g gy hk ht rfl rfl rfl rfl rfl rfl rfl (fun s hs=>?_),hk,rfl⟩
         rw [qGz (g0.ok x.node).rising]
         exact qDe (hin hn s hs) _
    ·simp only [h6,show ¬ ((6:Int)=3) by decide,show ¬ ((6:Int)=4) by decide,show ¬ ((6:Int)=7) by decide,show ¬ ((6:Int)=5) by decide,if_false,if_true] at c3 ht ⊢
     split at c3
     ·simp at c3
     ·rename_i c4
      rw [if_neg c4] at ht ⊢
      unfold qXt at c3 ht ⊢
      split at c3
      ·simp at c3
      ·rename_i c5
       rw [if_neg c5] at ht ⊢
       exact ⟨qGs g gy hk ht rfl rfl rfl rfl rfl rfl rfl (fun s hs=>qGj (hin hn s hs) _),hk,rfl⟩
   ·intro he;exact absurd he (by assumption)
end Go.Proofs.YtklbmkaomojciaaGreat
