/- The document's roles, and what is hidden, walked. -/
import Derived.Test.YthbhcdbedfimhaaGreatDoorRoleDoc
namespace Go.Proofs.YthbhcdbedfimhaaGreatDoor
open Go.RowKit
theorem qKz.on {w w':World} {v:Value} {l:List Int} (h:qKz w.heap.size w v l) (H:Bel w w'):qKz w'.heap.size w' v l:=(qQa.later h qQc H (Zb _)).mono (fun _ h=>Zc h H.size) (fun _ _ _ h=>h)
def zBu (x:Chg):List Value:=[.int .i64 x.kind,.int .i64 x.node,.int .i64 x.dest,.int .i64 x.before,.string ⟨x.name.toArray⟩,.string ⟨x.value.toArray⟩]
end Go.Proofs.YthbhcdbedfimhaaGreatDoor
namespace Go.Proofs.YthbhcdbedfimhaaGreatDoor
section
variable {d:Dc}
end
end Go.Proofs.YthbhcdbedfimhaaGreatDoor
namespace Go.Proofs.YthbhcdbedfimhaaGreatDoor
open Go.RowKit
end Go.Proofs.YthbhcdbedfimhaaGreatDoor
namespace Go.Proofs.YthbhcdbedfimhaaGreatDoor
variable {li w:Bool} {n x:Int} {one:Int->Bool->St->Txt×St} {C:List Clm} {s:St}
def noSt:St:=⟨fun _=>false,fun _=>false⟩
def qXn (d:Dc) (C:List Clm) (n:Int):Txt×St:=
 if (nd d n).tag=[]∨(kOf (qQd d n)).named=true then qQt d C 100 n false false (markM d n noSt) else ([],markM d n noSt)
def qY4 (d:Dc) (C:List Clm) (n:Int) (s:St):Txt×St:=qYy d (fun k=>qQt d C 100 k true true) n descT { had:=fun x=>x==n,asked:=s.asked }
def qWd (d:Dc) (C:List Clm) (n:Int) (r:Txt×St):Txt×St:=
 if (nd d n).tag≠[]/\r.1≠[] then (if (qY4 d C n r.2).1=[]/\sq d n titleT≠r.1 then sq d n titleT else (qY4 d C n r.2).1,(qY4 d C n r.2).2) else ([],r.2)
structure Mm where
 name:Txt:=[]
 about:Txt:=[]
 uses:List Int:=[]
def qWy (d:Dc) (s:St):List Int:=((List.range d.length).map (fun k:Nat=>(k:Int))).filter s.asked
def qJp (d:Dc) (C:List Clm) (n:Int):Mm:=
 if isM d n false then ⟨(qXn d C n).1,(qWd d C n (qXn d C n)).1,qWy d (qWd d C n (qXn d C n)).2⟩ else {}
def alvlT:Txt:=[97,114,105,97,45,108,101,118,101,108]
def qVt:Txt:=[97,114,105,97,45,99,104,101,99,107,101,100]
def qV3:Txt:=[97,114,105,97,45,100,105,115,97,98,108,101,100]
def chkT:Txt:=[99,104,101,99,107,101,100]
def qY3:List Txt:=[altT,labelT,titleT,valueT,alvlT,qVt,qV3,chkT]
structure SameBut (d y:Dc) (k:Int):Prop where
 len:y.length=d.length
 live:∀ n,(nd y n).live=(nd d n).live
 tag:∀ n,(nd y n).tag=(nd d n).tag
 up:∀ n,(nd y n).up=(nd d n).up
 kids:∀ n,(nd y n).kids=(nd d n).kids
 hasS:∀ n,(nd y n).hasS=(nd d n).hasS
 shadow:∀ n,(nd y n).shadow=(nd d n).shadow
 inS:∀ n,(nd y n).inS=(nd d n).inS
 attr:∀ n s,s∉qY3->qKr y n s=qKr d n s
 rest:∀ n,0<=n->n≠k->nd y n=nd d n
section
variable {d y:Dc} {k:Int}
theorem SameBut.isM (H:SameBut d y k) (n:Int) (e:Bool):isM y n e=isM d n e:=by
 unfold Proofs.YthbhcdbedfimhaaGreatDoor.isM;rw [H.len,H.live,H.tag]
theorem SameBut.said (H:SameBut d y k) (n:Int) {s:Txt} (h:s∉qY3):said y n s=said d n s:=by
 unfold Proofs.YthbhcdbedfimhaaGreatDoor.said;rw [H.attr n s h]
theorem SameBut.hasA (H:SameBut d y k) (n:Int) {s:Txt} (h:s∉qY3):hasA y n s=hasA d n s:=by
 unfold Proofs.YthbhcdbedfimhaaGreatDoor.hasA;rw [H.attr n s h]
theorem SameBut.attrAt (H:SameBut d y k) (h:0<=n) (a:n≠k) (s:Txt):qKr y n s=qKr d n s:=by
 unfold qKr;rw [H.isM,H.rest n h a]
theorem SameBut.saidAt (H:SameBut d y k) (h:0<=n) (a:n≠k) (s:Txt):Proofs.YthbhcdbedfimhaaGreatDoor.said y n s=Proofs.YthbhcdbedfimhaaGreatDoor.said d n s:=by
 unfold Proofs.YthbhcdbedfimhaaGreatDoor.said;rw [H.attrAt h a]
theorem SameBut.sqAt (H:SameBut d y k) (h:0<=n) (a:n≠k) (s:Txt):sq y n s=sq d n s:=by
 unfold sq;rw [H.saidAt h a]
theorem SameBut.hasAt (H:SameBut d y k) (h:0<=n) (a:n≠k) (s:Txt):Proofs.YthbhcdbedfimhaaGreatDoor.hasA y n s=Proofs.YthbhcdbedfimhaaGreatDoor.hasA d n s:=by
 unfold Proofs.YthbhcdbedfimhaaGreatDoor.hasA;rw [H.attrAt h a]
theorem SameBut.path (H:SameBut d y k):∀ f n,pathF y f n=pathF d f n:=by
 intro f;induction f with
 | zero=>intro n;rfl
 | succ f i=>intro n;unfold pathF;rw [H.isM,H.up,i]
theorem SameBut.scope (H:SameBut d y k) (n:Int):qQ4 y n=qQ4 d n:=by
 unfold qQ4 qF5;rw [H.len,H.path];simp only [H.inS,H.up]
theorem SameBut.allF (H:SameBut d y k):∀ f n,allF y f n=allF d f n:=by
 intro f;induction f with
 | zero=>intro n;rfl
 | succ f i=>
   intro n;have e:Proofs.YthbhcdbedfimhaaGreatDoor.allF y f=Proofs.YthbhcdbedfimhaaGreatDoor.allF d f:=funext i;unfold Proofs.YthbhcdbedfimhaaGreatDoor.allF;rw [H.isM,H.shadow,H.kids,e]
theorem SameBut.allM (H:SameBut d y k):allM y=allM d:=funext (H.allF 100)
theorem SameBut.slotR (H:SameBut d y k):slotR y=slotR d:=by
 funext n;unfold Proofs.YthbhcdbedfimhaaGreatDoor.slotR;rw [H.isM,H.inS,H.up,H.hasS,H.shadow,H.allM,H.said n (by decide)];have e:∀ a b,qXw y a b=qXw d a b:=fun a b=>by
  funext z;unfold qXw;rw [H.tag,H.scope,H.said z (by decide)]
 rw [e]
theorem SameBut.givenR (H:SameBut d y k):givenR y=givenR d:=by
 funext n;unfold Proofs.YthbhcdbedfimhaaGreatDoor.givenR qYo;rw [H.isM,H.tag,H.scope,H.kids,H.slotR]
theorem SameBut.kidsR (H:SameBut d y k):kidsR y=kidsR d:=by
 funext n;unfold Proofs.YthbhcdbedfimhaaGreatDoor.kidsR;rw [H.isM,H.hasS,H.shadow,H.kids,H.givenR]
theorem SameBut.upR (H:SameBut d y k):upR y=upR d:=by
 funext n;unfold Proofs.YthbhcdbedfimhaaGreatDoor.upR;rw [H.kidsR,H.len]
theorem SameBut.ups (H:SameBut d y k) (n:Int):ups y n=ups d n:=by
 unfold Proofs.YthbhcdbedfimhaaGreatDoor.ups;rw [H.upR]
theorem SameBut.shownR (H:SameBut d y k):shownR y=shownR d:=by
 unfold Proofs.YthbhcdbedfimhaaGreatDoor.shownR;rw [H.kidsR]
theorem SameBut.findD (H:SameBut d y k):findD y=findD d:=by
 funext n i;unfold Proofs.YthbhcdbedfimhaaGreatDoor.findD;rw [H.isM,H.allM];have e:∀ z,Proofs.YthbhcdbedfimhaaGreatDoor.said y z idT=Proofs.YthbhcdbedfimhaaGreatDoor.said d z idT:=fun z=>H.said z (by decide);simp only [H.scope,e]
theorem SameBut.claims (H:SameBut d y k):qQw y=qQw d:=by
 have e:∀ l n a,onB y l n a=onB d l n a:=fun l n a=>by
  unfold onB inM;rw [H.upR]
 have E:qZi y=qZi d:=by
  funext n l i;unfold qZi;rw [H.findD,H.shownR,e]
 have b:qZ8 y=qZ8 d:=by
  funext l n;unfold qZ8;rw [E,H.said n (by decide)]
 unfold qQw;rw [b,H.shownR]
theorem SameBut.inside (H:SameBut d y k) (C:List Clm) (n:Int):qQq y C n=qQq d C n:=by
 unfold qQq;rw [H.kidsR]
theorem SameBut.hid (H:SameBut d y k) (n:Int):qZc y n=qZc d n:=by
 have e:∀ f n,hidF y f n=hidF d f n:=by
  intro f;induction f with
  | zero=>intro n;rfl
  | succ f i=>
    intro n;unfold hidF offM sq;rw [H.isM,H.hasA n (by decide),H.said n (by decide),H.upR,i]
 exact e 100 n
theorem SameBut.labelled (H:SameBut d y k) (h:0<=n) (a:n≠k):qZr y n=qZr d n:=by
 unfold qZr;rw [H.sqAt h a,H.sqAt h a]
theorem SameBut.base (H:SameBut d y k) (h:0<=n) (a:n≠k):qXo y n=qXo d n:=by
 have e:qWt y n=qWt d n:=by
  unfold qWt;rw [H.labelled h a,H.saidAt h a]
 have E:qZl y n=qZl d n:=by
  unfold qZl;rw [H.tag,H.labelled h a,H.sqAt h a,H.sqAt h a,H.sqAt h a,H.hasAt h a,H.hasAt h a]
 unfold qXo;rw [e,E]
theorem SameBut.rn (H:SameBut d y k):∀ f n,k∉qZ3 (Proofs.YthbhcdbedfimhaaGreatDoor.upR d) f n->rnF y f n=rnF d f n:=by
 intro f;induction f with
 | zero=>intro n _;rfl
 | succ f i=>
   intro n h;rw [zZf,zZf];by_cases a:n<0
   ·rw [if_pos a,if_pos a]
   ·rw [if_neg a,if_neg a,H.upR];unfold qZ3 at h;rw [if_neg a] at h;simp only [List.mem_cons,not_or] at h;rw [i _ h.2];unfold zXi;rw [H.isM,H.tag,H.base (by omega) (fun e=>h.1 e.symm)]
theorem SameBut.role (H:SameBut d y k) (h:k∉Proofs.YthbhcdbedfimhaaGreatDoor.ups d n):qQd y n=qQd d n:=by
 unfold qQd;rw [H.rn 100 n h]
theorem qV8 {one:Int->St->Txt×St} (H:∀ k s x,s.asked x=true->(one k s).2.asked x=true):∀ (ks:List Int) (s:St) (x:Int),s.asked x=true->(eachF one ks s).2.asked x=true:=by
 intro ks;induction ks with
 | nil=>intro s x h;exact h
 | cons k ks i=>
   intro s x h;unfold eachF;split
   ·exact i _ _ (H _ _ _ h)
   ·exact i _ _ h
theorem zJh (H:∀ k l s x,s.asked x=true->(one k l s).2.asked x=true) (h:s.asked x=true):(step1 d one n w s).2.asked x=true:=by
 unfold step1;split
 ·exact h
 ·exact qV8 (fun k s x h=>H k true s x h) _ _ _ h
theorem zDl {one:Int->St->Txt×St} (H:∀ k s x,s.asked x=true->(one k s).2.asked x=true) (h:s.asked x=true):(qXu d one n s).2.asked x=true:=by
 unfold qXu;split
 ·exact h
 ·split
  ·split
   ·exact H _ _ _ h
   ·exact h
  ·exact h
theorem qBa (H:∀ k l s x,s.asked x=true->(one k l s).2.asked x=true) (h:s.asked x=true):(qGi d C one n w li s).2.asked x=true:=by
 unfold qGi;split
 ·exact qV8 (fun k s x h=>H k li s x h) _ _ _ h
 ·exact h
theorem zZz (H:∀ k l s x,s.asked x=true->(one k l s).2.asked x=true) (h:s.asked x=true):(step2 d C one n w li s).2.asked x=true:=by
 have a:=zDl (d:=d) (n:=n) (fun k s x h=>H k false s x h) h;unfold step2;split
 ·exact h
 ·split
  ·exact h
  ·split
   ·exact a
   ·split
    ·exact qBa H a
    ·exact qBa H a
theorem zZu (H:∀ k l s x,s.asked x=true->(one k l s).2.asked x=true) (h:(markM d n s).asked x=true):(qVp d C one n w li s).2.asked x=true:=by
 unfold qVp;split
 ·exact h
 ·split
  ·exact h
  ·split
   ·exact zJh H h
   ·exact zZz H (zJh H h)
theorem jQ4 (h:s.asked x=true):(markM d n s).asked x=true:=by
 simp [markM,h]
theorem qVe:∀ (f:Nat) (n:Int) (w l:Bool) (s:St) (x:Int),s.asked x=true->(qQt d C f n w l s).2.asked x=true:=by
 intro f;induction f with
 | zero=>intro n w l s x h;exact h
 | succ f i=>
   intro n w l s x h;rw [qDv];exact zZu (fun k l s x h=>i k true l s x h) (jQ4 h)
theorem zQl {one o:Int->St->Txt×St} (a:∀ j s x,s.asked x=true->(one j s).2.asked x=true) (c:∀ j s,0<=j->(one j s).2.asked k=false->o j s=one j s):∀ (ks:List Int) (s:St),(eachF one ks s).2.asked k=false->eachF o ks s=eachF one ks s:=by
 intro ks;induction ks with
 | nil=>intro s _;rfl
 | cons j ks i=>
   intro s h;unfold eachF at h ⊢;split
   ·rename_i H;rw [if_pos H] at h;have b:(one j s).2.asked k=false:=by
     cases e:(one j s).2.asked k with
     | false=>rfl
     | true=>rw [qV8 a ks _ _ e] at h;simp at h
    rw [c j s H.1 b,i _ h]
   ·rename_i H;rw [if_neg H] at h;exact i _ h
theorem qX6 {a b:Bool} (h:a=true->b=true) (H:b=false):a=false:=by
 cases a with
 | false=>rfl
 | true=>rw [h rfl] at H;simp at H
theorem allF_is:∀ (f:Nat) (n x:Int),x∈allF d f n->Proofs.YthbhcdbedfimhaaGreatDoor.isM d x false=true:=by
 intro f;induction f with
 | zero=>intro n x h;simp [Proofs.YthbhcdbedfimhaaGreatDoor.allF] at h
 | succ f i=>
   intro n x h;unfold Proofs.YthbhcdbedfimhaaGreatDoor.allF at h;split at h
   ·rcases List.mem_cons.1 h with rfl | h
    ·assumption
    ·obtain ⟨z,_,H⟩:=List.mem_flatMap.1 h;exact i z x H
   ·simp at h
theorem zXf (H:SameBut d y k) :∀ (f:Nat) (n:Int) (w l:Bool) (s:St),0<=n->(qQt d C f n w l s).2.asked k=false->qQt y C f n w l s=qQt d C f n w l s:=by
 intro f;induction f with
 | zero=>intro n w l s _ _;rfl
 | succ f Q=>
   intro n w l s b a;rw [qDv] at a ⊢;rw [qDv];have M:∀ j l s x,s.asked x=true->(qQt d C f j true l s).2.asked x=true:=fun j l s x h=>qVe f j true l s x h;have P:(markM d n s).asked k=false:=qX6 (fun h=>zZu (C:=C) (w:=w) (li:=l) M h) a;have u:k∉ups d n:=by
    intro h;simp [markM,h] at P
   have g:n≠k:=by
    intro e;apply u;subst e;unfold ups;show n∈qZ3 (upR d) (99+1) n;unfold qZ3;rw [if_neg (by omega)];exact List.mem_cons_self
   have I:∀ (l:Bool) (j:Int) (s:St),0<=j->(qQt d C f j true l s).2.asked k=false->qQt y C f j true l s=qQt d C f j true l s:=fun l j s c h=>Q j true l s c h;have J:markM y n s=markM d n s:=by
    unfold markM;rw [H.ups]
   have E:=H.role u;have A:∀ s,(step1 d (fun j l s=>qQt d C f j true l s) n w s).2.asked k=false->step1 y (fun j l s=>qQt y C f j true l s) n w s=step1 d (fun j l s=>qQt d C f j true l s) n w s:=fun s h=>by
    unfold step1 at h ⊢;split
    ·rfl
    ·rename_i i;rw [if_neg i] at h;unfold qYy at h ⊢;rw [H.findD,H.saidAt b g];rw [zQl (fun j s x h=>M j true s x h) (fun j s c h=>I true j s c h) _ _ h]
   have D:∀ s,(qXu d (fun j=>qQt d C f j true false) n s).2.asked k=false->qXu y (fun j=>qQt y C f j true false) n s=qXu d (fun j=>qQt d C f j true false) n s:=fun s h=>by
    have G:qXf y n s=qXf d n s:=by
     funext j;unfold qXf;rw [H.tag,H.said j (by decide),H.said n (s:=idT) (by decide),H.scope,H.scope]
    unfold qXu at h ⊢;rw [H.tag,H.sqAt b g,H.saidAt b g,H.findD,H.allM,G];split
    ·rfl
    ·rename_i O;rw [if_neg O] at h;split
     ·rename_i c;rw [if_pos c] at h;cases o:(Proofs.YthbhcdbedfimhaaGreatDoor.allM d 0).find? (qXf d n s) with
      | none=>rfl
      | some j=>
        rw [o] at h;have:=allF_is 100 0 j (List.mem_of_find?_eq_some o);exact I false j s (qQi.1 this).1 h
     ·rfl
   have F:∀ s,(qGi d C (fun j l s=>qQt d C f j true l s) n w l s).2.asked k=false->qGi y C (fun j l s=>qQt y C f j true l s) n w l s=qGi d C (fun j l s=>qQt d C f j true l s) n w l s:=fun s h=>by
    unfold qGi at h ⊢;rw [E];split
    ·rename_i i;rw [if_pos i] at h;unfold qYr at h ⊢;rw [H.inside];rw [zQl (fun j s x h=>M j l s x h) (fun j s c h=>I l j s c h) _ _ h]
    ·rfl
   unfold qVp at a ⊢;rw [H.hid,H.tag,J,H.rest n b g];split
   ·rfl
   ·rename_i p;rw [if_neg p] at a;split
    ·rfl
    ·rename_i q;rw [if_neg q] at a;have K:(step1 d (fun j l s=>qQt d C f j true l s) n w (hitM n (markM d n s))).2.asked k=false:=by
      split at a
      ·exact a
      ·exact qX6 (fun h=>zZz (n:=n) (w:=w) (li:=l) (C:=C) M h) a
     rw [A _ K];split
     ·rfl
     ·rename_i c3;rw [if_neg c3] at a;generalize step1 d (fun j l s=>qQt d C f j true l s) n w (hitM n (markM d n s))=r at *
      unfold step2 at a ⊢;rw [H.sqAt b g,H.sqAt b g,H.sqAt b g,E];split
      ·rfl
      ·rename_i c4;rw [if_neg c4] at a;split
       ·rfl
       ·rename_i t;rw [if_neg t] at a;have N:(qXu d (fun j=>qQt d C f j true false) n r.2).2.asked k=false:=by
         split at a
         ·exact a
         ·split at a
          ·exact qX6 (fun h=>qBa (n:=n) (w:=w) (li:=l) (C:=C) M h) a
          ·exact qX6 (fun h=>qBa (n:=n) (w:=w) (li:=l) (C:=C) M h) a
        rw [D _ N];split
        ·rfl
        ·rename_i z;rw [if_neg z] at a;have hC:(qGi d C (fun j l s=>qQt d C f j true l s) n w l (qXu d (fun j=>qQt d C f j true false) n r.2).2).2.asked k=false:=by
          split at a
          ·exact a
          ·exact a
         rw [F _ hC]
theorem zDv (H:SameBut d y k) (D:Proofs.YthbhcdbedfimhaaGreatDoor.isM d k false=true) (u:k∉(qJp d C n).uses):qJp y C n=qJp d C n:=by
 unfold qJp at u ⊢;rw [H.isM];split
 ·rename_i g;rw [if_pos g] at u;have f:0<=n:=(qQi.1 g).1;simp only at u;have a:(qWd d C n (qXn d C n)).2.asked k=false:=by
   cases e:(qWd d C n (qXn d C n)).2.asked k with
   | false=>rfl
   | true=>
     refine absurd ?_ u;obtain ⟨q,G,rfl,-⟩:=qQz.1 D;exact List.mem_filter.2 ⟨List.mem_map.2 ⟨q,List.mem_range.2 G,rfl⟩,e⟩
  have z:∀ s x,s.asked x=true->(qY4 d C n s).2.asked x=true:=fun s x h=>qV8 (fun j s x h=>qVe 100 j true true s x h) _ _ _ h;have b:(qXn d C n).2.asked k=false:=by
   refine qX6 (fun h=>?_) a;unfold qWd;split
   ·exact z _ _ h
   ·exact h
  have F:(markM d n noSt).asked k=false:=by
   refine qX6 (fun h=>?_) b;unfold qXn;split
   ·exact qVe _ _ _ _ _ _ h
   ·exact h
  have u:k∉ups d n:=by
   intro h;simp [markM,h] at F
  have i:n≠k:=by
   intro e;apply u;subst e;unfold ups;show n∈qZ3 (upR d) (99+1) n;unfold qZ3;rw [if_neg (by omega)];exact List.mem_cons_self
  have r:markM y n noSt=markM d n noSt:=by
   unfold markM;rw [H.ups]
  have E:qXn y C n=qXn d C n:=by
   unfold qXn at b ⊢;rw [H.tag,H.role u,r];split
   ·rename_i c;rw [if_pos c] at b;exact zXf H 100 n false false _ f b
   ·rfl
  rw [E];have o:qWd y C n (qXn d C n)=qWd d C n (qXn d C n):=by
   unfold qWd at a ⊢;rw [H.tag,H.sqAt f i];split
   ·rename_i c;rw [if_pos c] at a;have p:qY4 y C n (qXn d C n).2=qY4 d C n (qXn d C n).2:=by
     unfold qY4 qYy at a ⊢;rw [H.findD,H.saidAt f i];rw [zQl (fun j s x h=>qVe 100 j true true s x h) (fun j s A h=>zXf H 100 j true true s A h) _ _ a]
    rw [p]
   ·rfl
  rw [o];have t:qWy y=qWy d:=by
   funext s;unfold qWy;rw [H.len]
  rw [t]
 ·rfl
end
def qKp (x:Chg):Bool:=x.kind==7||((x.kind==5||x.kind==6)&&qY3.contains x.name)
theorem qYs {d:Dc} {a b:Int} (h:a.toNat=b.toNat):nd d a=nd d b:=by unfold nd;rw [h]
theorem zGw {n v s:Txt} (b:s≠n):∀ l:List Att,qJc (insA n v l) s=qJc l s:=by
 have H:((⟨n,v⟩:Att).name==s)=false:=by simpa using fun e:n=s=>b e.symm
 intro l;induction l with
 | nil=>
   unfold insA qJc;rw [List.find?_cons,H]
 | cons a l i=>
   unfold insA;split
   ·rename_i h;have c:(a.name==s)=false:=(by simpa using fun e:a.name=s=>b (e.symm.trans h));unfold qJc;rw [List.find?_cons,List.find?_cons,H,c]
   ·split
    ·unfold qJc at i ⊢;rw [List.find?_cons,List.find?_cons];cases h:(a.name==s) with
     | true=>rfl
     | false=>exact i
    ·unfold qJc;rw [List.find?_cons,H]
theorem zVq {n s:Txt} (b:s≠n):∀ l:List Att,qJc (l.filter (fun a=>a.name != n)) s=qJc l s:=by
 intro l;induction l with
 | nil=>rfl
 | cons a l i=>
   unfold qJc at i ⊢;rw [List.filter_cons];split
   ·rw [List.find?_cons,List.find?_cons];cases h:(a.name==s) with
    | true=>rfl
    | false=>exact i
   ·rename_i h;have h:a.name=n:=(by simpa using h);have H:(a.name==s)=false:=(by simpa using fun e:a.name=s=>b (e.symm.trans h));rw [List.find?_cons,H];exact i
theorem zV5 {d y:Dc} {k:Int} {X:Nd} (g:Good d) (G:Good y) (D:isM d k false=true) (O:∀ n,nd y n=nd (qZq d k.toNat X) n)
 (F:X.live=(nd d k).live) (M:X.tag=(nd d k).tag) (N:X.up=(nd d k).up) (E:X.kids=(nd d k).kids) (z:X.hasS=(nd d k).hasS) (J:X.shadow=(nd d k).shadow) (A:X.inS=(nd d k).inS)
 (ha:∀ s,s∉qY3->qJc X.attrs s=qJc (nd d k).attrs s):SameBut d y k:=by
 have P:=qJt D;have c:∀ n,nd y n=if n.toNat=k.toNat then X else nd d n:=fun n=>by rw [O,qBu (by omega)]
 have f:∀ n,(nd y n).live=(nd d n).live:=fun n=>by
  rw [c];split
  ·rename_i h;rw [F,qYs h]
  ·rfl
 have t:∀ n,(nd y n).tag=(nd d n).tag:=fun n=>by
  rw [c];split
  ·rename_i h;rw [M,qYs h]
  ·rfl
 have p:y.length=d.length:=by
  have K:∀ {a b:Dc},Good a->(∃ r,G0 qQl 16 r b)->(∀ n,(nd a n).live=(nd b n).live)->a.length<=b.length:=by
   intro a b q u H;obtain ⟨r,i⟩:=u;rcases q.last with j | j
   ·have:=i.pos;omega
   ·have o:=qQi.1 j;rw [H] at o;have:=(qJt (qQi.2 o)).1;omega
  exact Nat.le_antisymm (K G g.tree f) (K g G.tree (fun n=>(f n).symm))
 refine ⟨p,f,t,?_,?_,?_,?_,?_,?_,?_⟩
 ·intro n;rw [c];split
  ·rename_i h;rw [N,qYs h]
  ·rfl
 ·intro n;rw [c];split
  ·rename_i h;rw [E,qYs h]
  ·rfl
 ·intro n;rw [c];split
  ·rename_i h;rw [z,qYs h]
  ·rfl
 ·intro n;rw [c];split
  ·rename_i h;rw [J,qYs h]
  ·rfl
 ·intro n;rw [c];split
  ·rename_i h;rw [A,qYs h]
  ·rfl
 ·intro n s I;have e:isM y n true=isM d n true:=by
   unfold isM;rw [p,f,t]
  unfold qKr;rw [e];split
  ·rw [c];split
   ·rename_i h;rw [ha s I,qYs h]
   ·rfl
  ·rfl
 ·intro n i Q;rw [c,if_neg (by omega)]
theorem zH6 {d:Dc} {x:Chg} (g:Good d) (a:(qQ8 d x).1=0) (p:qKp x=true):SameBut d (qQ8 d x).2.2 x.node/\isM d x.node false=true/\(qQ8 d x).2.1=x.node:=by
 have G:=qGh g a;revert a G;unfold qQ8;split
 ·intro a;simp at a
 ·rename_i F;split
  ·intro a;simp at a
  ·rename_i o;have b:isM d x.node false=true:=(by simpa using o);split
   ·rename_i c3;intro _ G;dsimp only at G ⊢;obtain ⟨⟨r,g1⟩,_⟩:=qBz g b c3;have H:=g1.trim.1;have i:qY3.contains x.name=true->∀ s,s∉qY3->s≠x.name:=fun h s c e=>c (by rw [e];simpa using h);generalize I:qVb (qZa d x).2.2=D at *
    unfold qZa at c3 H ⊢;unfold qKp at p;simp only [Bool.or_eq_true,Bool.and_eq_true,beq_iff_eq] at p;rcases p with E | ⟨z | A,j⟩
    ·simp only [E,show ¬ ((7:Int)=3) by decide,show ¬ ((7:Int)=4) by decide,if_false,if_true] at c3 H ⊢;unfold sayM at c3 H ⊢;split at c3
     ·simp at c3
     ·rename_i c4;rw [if_neg c4] at H ⊢;exact ⟨zV5 g G b H rfl rfl rfl rfl rfl rfl rfl (fun _ _=>rfl),b,rfl⟩
    ·simp only [z,show ¬ ((5:Int)=3) by decide,show ¬ ((5:Int)=4) by decide,show ¬ ((5:Int)=7) by decide,if_false,if_true] at c3 H ⊢;split at c3
     ·simp at c3
     ·rename_i c4;rw [if_neg c4] at H ⊢;unfold qK4 at c3 H ⊢;split at c3
      ·simp at c3
      ·rename_i f;rw [if_neg f] at H ⊢;split at c3
       ·simp at c3
       ·rename_i q;rw [if_neg q] at H ⊢;split at c3
        ·simp at c3
        ·rename_i t;rw [if_neg t] at H ⊢;obtain ⟨R,u⟩:=g.tree;refine ⟨zV5 g G b H rfl rfl rfl rfl rfl rfl rfl (fun s c=>?_),b,rfl⟩;rw [zKc (u.ok x.node).rising];exact zGw (i j s c) _
    ·simp only [A,show ¬ ((6:Int)=3) by decide,show ¬ ((6:Int)=4) by decide,show ¬ ((6:Int)=7) by decide,show ¬ ((6:Int)=5) by decide,if_false,if_true] at c3 H ⊢;split at c3
     ·simp at c3
     ·rename_i c4;rw [if_neg c4] at H ⊢;unfold qFa at c3 H ⊢;split at c3
      ·simp at c3
      ·rename_i f;rw [if_neg f] at H ⊢;exact ⟨zV5 g G b H rfl rfl rfl rfl rfl rfl rfl (fun s c=>zVq (i j s c) _),b,rfl⟩
   ·intro a;exact absurd a (by assumption)
end Go.Proofs.YthbhcdbedfimhaaGreatDoor
set_option maxRecDepth 100000
set_option maxHeartbeats 1000000
namespace Go.Proofs.YthbhcdbedfimhaaGreatDoor
open Go.RowKit
structure Me where
 node:Int
 name:Txt
 about:Txt
 uses:List Int
variable {x:Int} {l:List Me} {cs:List Value} {g1 m n:Nat} {B C:Nat->Prop} {v:Value} {w w':World}
def meOf (n:Int) (m:Mm):Me:=⟨n,m.name,m.about,m.uses⟩
def qGn (m:Me) (v:Value):List Value:=[.int .i64 m.node,.string ⟨m.name.toArray⟩,.string ⟨m.about.toArray⟩,v]
def rdMe (B:Nat->Prop):World->List Value->Me->Prop:=fun w cs m=>∃ v,cs=qGn m v/\qQa 1 qQh B w v m.uses
abbrev qKt (B:Nat->Prop) (w:World) (v:Value) (l:List Me):Prop:=qQa 4 (rdMe B) B w v l
theorem rdMe.agree (ha:qZs B w w') {m:Me} (h:rdMe B w cs m):rdMe B w' cs m:=by
 obtain ⟨v,H,a⟩:=h;exact ⟨v,H,a.agree ha (fun _ _ _ h=>h)⟩
theorem rdMe.mono (c:∀ b,B b->C b) {m:Me} (h:rdMe B w cs m):rdMe C w cs m:=by
 obtain ⟨v,H,a⟩:=h;exact ⟨v,H,a.mono c (fun _ _ _ h=>h)⟩
theorem qKt.agree (h:qKt B w v l) (ha:qZs B w w'):qKt B w' v l:=qQa.agree h ha (fun _ _ _ H=>H.agree ha)
theorem qKt.mono (h:qKt B w v l) (H:∀ b,B b->C b):qKt C w v l:=qQa.mono h H (fun _ _ _ r=>r.mono H)
theorem qKt.later (h:qKt (·<n) w v l) (H:Below m w w') (a:n<=m):qKt (·<n) w' v l:=
 h.agree (qZs.mono (qZs.below H) (fun _ H=>Zc H a))
theorem qKt.up (h:qKt (·<n) w v l) (H:Bel w w') (a:n<=w.heap.size):qKt (·<w'.heap.size) w' v l:=
 (h.later H a).mono (fun _ h=>Zc (Zc h a) H.size)
structure MeC (B:Nat->Prop) (w:World) (b o:Nat) (m:Me) (uv:Value):Prop where
 node:w.cell? ⟨b,o,none⟩=some (.int .i64 m.node)
 name:w.cell? ⟨b,o+1,none⟩=some (.string ⟨m.name.toArray⟩)
 about:w.cell? ⟨b,o+2,none⟩=some (.string ⟨m.about.toArray⟩)
 uses:w.cell? ⟨b,o+3,none⟩=some uv
 usesAt:qQa 1 qQh B w uv m.uses
theorem qKt.item (h:qKt B w v l) (i:Nat) (q:i<l.length) :
 ∃ b o c u,v=.slice (some ⟨b,o,none⟩) l.length c/\l.length<=c/\c<=9223372036854775807/\B b/\MeC B w b (o+i*4) l[i] u:=by
 obtain ⟨a,r,e,E,g⟩:=Rf h;obtain ⟨b,o,c,cs,f,j,t,H,u,rfl,p⟩:=qQa.elem h i q;rw [f] at e;simp at e;obtain ⟨_,rfl⟩:=e;exact ⟨b,o,c,u,f,E,g,j,by simpa using H 0 _ rfl,H 1 _ rfl,H 2 _ rfl,H 3 _ rfl,p⟩
def idxMe (x:Int):List Me->Nat->Int
 | [],_=>-1
 | m::l,i=>if m.node==x then (i:Int) else idxMe x l (i+1)
theorem zHb {j:Nat} (h:j<l.length):idxMe x (l.drop j) j=if l[j].node==x then (j:Int) else idxMe x (l.drop (j+1)) (j+1):=by
 rw [List.drop_eq_getElem_cons h];rfl
theorem zJw (H:w.cell? ⟨g1,0,none⟩=some (.int .i64 x)) (n:Int) (a b:Txt) (u:Option Addr) (e U:Nat) :
 Calls Tryz.prog 40 #[.agg #[.int .i64 n,.string ⟨a.toArray⟩,.string ⟨b.toArray⟩,.slice u e U],.pointer (some ⟨g1,0,none⟩)] w (Rb (.bool (n==x)) w):=by
 have f:=World.block_lt_of_cell? w _ H;obtain ⟨W,h⟩:∃ W,W=w.alloc (.cells #[.int .i64 n,.string ⟨a.toArray⟩,.string ⟨b.toArray⟩,.slice u e U] 79):=⟨_,rfl⟩;have c:Bel w W:=by rw [h];exact (Br w).alloc _
 have K:Blk W w.heap.size [.int .i64 n,.string ⟨a.toArray⟩,.string ⟨b.toArray⟩,.slice u e U] 79:=by rw [h];exact Blk.new' w _ rfl _ _
 have i:=K.cell 0;have j:=(c.cells g1 0 f).trans H;simp only [Zd] at i;have g:=lH c;clear c K H f;go_enter Tryz.func40,Tryz.ntmps40
 go_upto_region 1 with fail
 rw [<- h];clear h;go_wp2;go_ret;exact ⟨rfl,g.o⟩
theorem qFj (hv:qKt (·<m) w v l) (hm:m<=w.heap.size) (g:w.cell? ⟨g1,0,none⟩=some (.int .i64 x)) :
 Calls Tryz.prog 39 #[v,.func (.func 40) #[] #[.pointer (some ⟨g1,0,none⟩)]] w (Rb (.int .i64 (idxMe x l 0)) w):=by
 have o:=World.block_lt_of_cell? w _ g;obtain ⟨Y,Z,rfl,_,_⟩:=Rf hv;have V:=lH hv;have q:=lH (fun (W:World) (D:Bel w W)=>(D.cells g1 0 o).trans g);clear hv g o;go_enter Tryz.func39,Tryz.ntmps39
 go_wp2;go_loopw [8] (fun z wr=>∃ j:Nat,j<=l.length/\z=.int .i64 j/\idxMe x (l.drop j) j=idxMe x l 0/\Bel w wr) (fun z _=>l.length - (intOf z).toNat)
 case atStart=>exact ⟨0,by omega,rfl,rfl,Br _⟩
 case round=>
  obtain ⟨j,S,rfl,i,a⟩:=hrel;have F:=lH i;have e:=lH a;by_cases t:j<l.length
  ·obtain ⟨b,T,P,X,E,_,_,Q,h⟩:=(V.o.later a hm).item j t;simp at E;obtain ⟨rfl,rfl⟩:=E;have r:=h.node;have u:=h.name;have A:=h.about;have c3:=h.uses;obtain ⟨U,N,rfl,_,_⟩:=Rf h.usesAt;have I:=lH (zHb (x:=x) t);have cc:=q.o _ a;clear i a h;generalize l[j]=M at *
   obtain ⟨p,J,G,K⟩:=M;simp only at r u A c3 I;have c:=lH (zJw cc p J G U K.length N);cases H:p==x with
   | true=>
     rw [H] at c;have R:Hi (idxMe x l 0=(j:Int)):=lH (by rw [<- F.o,I.o,H];rfl);clear H cc;go_wp2_with (go_at_call 40;(with_reducible refine qQf c.o e fun O f=>?_))
     go_ret;exact ⟨qQs R.o.symm,f.o⟩
   | false=>
     rw [H] at c;have R:Hi (idxMe x (l.drop (j+1)) (j+1)=idxMe x l 0):=lH (by rw [<- F.o,I.o,H];rfl);clear H cc;go_wp2_with (go_at_call 40;(with_reducible refine qQf c.o e fun O f=>?_))
     go_roundw;case rel=>exact ⟨j+1,by omega,by go_num,R.o,f.o⟩
     case measure=>simp [intOf];omega
  ·have R:Hi (idxMe x l 0 = -1):=lH (by rw [<- F.o,List.drop_of_length_le (by omega)];rfl);clear i a;go_wp2;go_ret;exact ⟨qQs R.o.symm,e.o⟩
def qVy (m:Me) (dirty:List Int):Bool:=!m.uses.any dirty.contains
theorem zYu {a:Value} {N:List Int} {g:Nat} (h:qKz m w a N) (hg:w.cell? ⟨g,0,none⟩=some a) (x:Int) :
 Calls Tryz.prog 74 #[.int .i64 x,.pointer (some ⟨g,0,none⟩)] w (Rb (.bool (N.contains x)) w):=by
 have c:=lH (qJ9 m a N x w h);obtain ⟨V,b,rfl,_,_⟩:=Rf h;clear h;go_enter Tryz.func74,Tryz.ntmps74
 go_wp2_with (go_at_call 35;(with_reducible refine c.o.mono ?_);rintro e W ⟨rfl,rfl⟩)
 go_ret;exact ⟨qJq (by simp),Br _⟩
theorem jZd (args:Array Value) (w:World):(callFunc 74 args).run Tryz.prog w=.ok (.enter 74 args) w:=by kernel_rfl
theorem qVa {b o:Nat} {j I:Value} {D:List Int} {M:Me} (c:MeC B w b o M I) (p:∀ x,B x->x<w.heap.size) (hd:qKz m w j D) (hm:m<=w.heap.size) :
 Calls Tryz.prog 41 #[.pointer (some ⟨b,o,none⟩),j] w (Rb (.bool (qVy M D)) w):=by
 have G:=World.block_lt_of_cell? w _ c.node;obtain ⟨u,z,rfl,_,_⟩:=Rf c.usesAt;obtain ⟨g,i,rfl,_,_⟩:=Rf hd;obtain ⟨a,e⟩:∃ a,a=w.alloc (.cells #[.slice g D.length i] 28):=⟨_,rfl⟩;have H:Bel w a:=by rw [e];exact (Br w).alloc _
 have K:Blk a w.heap.size [.slice g D.length i] 28:=by rw [e];exact Blk.new' w _ rfl _ _
 have c3:=(H.cells b _ G).trans c.uses;have U:qKz a.heap.size a (.slice u M.uses.length z) M.uses:=(qQa.agree c.usesAt (fun x f=>H.block x (p x f)) (fun _ _ _ h=>h)).mono (fun x f=>Zc (p x f) H.size) (fun _ _ _ h=>h);have q:=qQa.later hd qQc H hm;have F:Hi (Calls Tryz.prog 73 #[.slice u M.uses.length z,.func (.func 74) #[] #[.pointer (some ⟨w.heap.size,0,none⟩)]] a (Rb (.bool (M.uses.any D.contains)) a)):=lH (qK0 74 #[.pointer (some ⟨w.heap.size,0,none⟩)] D.contains jZd a.heap.size _ M.uses a U (Zb _) (fun W t x=>zYu (qQa.later q qQc t (Za hm H.size)) ((K.bel t).cell 0) x));have A:=lH H;unfold qVy;generalize M.uses.any D.contains=r at *
 clear c H K U q hd;go_enter Tryz.func41,Tryz.ntmps41
 go_upto_region 1 with fail
 rw [<- e];clear e;go_wp2_with (go_at_call 73;(with_reducible refine qQf F.o A fun J E=>?_))
 go_ret;exact ⟨rfl,E.o⟩
