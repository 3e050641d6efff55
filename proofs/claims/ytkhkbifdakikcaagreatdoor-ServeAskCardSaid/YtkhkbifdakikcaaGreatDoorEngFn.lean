/- The document's roles, and what is hidden, walked. -/
import Derived.Test.YtkhkbifdakikcaaGreatDoorRoleDoc
namespace Go.Proofs.YtkhkbifdakikcaaGreatDoor
open Go.RowKit
theorem qKn.on {w w':World} {v:Value} {l:List Int} (h:qKn w.heap.size w v l) (H:Bel w w'):qKn w'.heap.size w' v l:=(qQa.later h qQc H (Zb _)).mono (fun _ h=>Zc h H.size) (fun _ _ _ h=>h)
def zWh (x:Chg):List Value:=[.int .i64 x.kind,.int .i64 x.node,.int .i64 x.dest,.int .i64 x.before,.string ⟨x.name.toArray⟩,.string ⟨x.value.toArray⟩]
end Go.Proofs.YtkhkbifdakikcaaGreatDoor
namespace Go.Proofs.YtkhkbifdakikcaaGreatDoor
section
variable {d:Dc}
end
end Go.Proofs.YtkhkbifdakikcaaGreatDoor
namespace Go.Proofs.YtkhkbifdakikcaaGreatDoor
open Go.RowKit
end Go.Proofs.YtkhkbifdakikcaaGreatDoor
namespace Go.Proofs.YtkhkbifdakikcaaGreatDoor
variable {li w:Bool} {n x:Int} {one:Int->Bool->St->Txt×St} {C:List Clm} {s:St}
def noSt:St:=⟨fun _=>false,fun _=>false⟩
def qXg (d:Dc) (C:List Clm) (n:Int):Txt×St:=
 if (nd d n).tag=[]∨(kOf (qQd d n)).named=true then qQs d C 100 n false false (markM d n noSt) else ([],markM d n noSt)
def qYv (d:Dc) (C:List Clm) (n:Int) (s:St):Txt×St:=qYq d (fun k=>qQs d C 100 k true true) n descT { had:=fun x=>x==n,asked:=s.asked }
def qV0 (d:Dc) (C:List Clm) (n:Int) (r:Txt×St):Txt×St:=
 if (nd d n).tag≠[]/\r.1≠[] then (if (qYv d C n r.2).1=[]/\sq d n titleT≠r.1 then sq d n titleT else (qYv d C n r.2).1,(qYv d C n r.2).2) else ([],r.2)
structure Mm where
 name:Txt:=[]
 about:Txt:=[]
 uses:List Int:=[]
def qWm (d:Dc) (s:St):List Int:=((List.range d.length).map (fun k:Nat=>(k:Int))).filter s.asked
def qJn (d:Dc) (C:List Clm) (n:Int):Mm:=
 if isM d n false then ⟨(qXg d C n).1,(qV0 d C n (qXg d C n)).1,qWm d (qV0 d C n (qXg d C n)).2⟩ else {}
def alvlT:Txt:=[97,114,105,97,45,108,101,118,101,108]
def qVh:Txt:=[97,114,105,97,45,99,104,101,99,107,101,100]
def qVq:Txt:=[97,114,105,97,45,100,105,115,97,98,108,101,100]
def chkT:Txt:=[99,104,101,99,107,101,100]
def qYu:List Txt:=[altT,labelT,titleT,valueT,alvlT,qVh,qVq,chkT]
structure SameBut (d y:Dc) (k:Int):Prop where
 len:y.length=d.length
 live:∀ n,(nd y n).live=(nd d n).live
 tag:∀ n,(nd y n).tag=(nd d n).tag
 up:∀ n,(nd y n).up=(nd d n).up
 kids:∀ n,(nd y n).kids=(nd d n).kids
 hasS:∀ n,(nd y n).hasS=(nd d n).hasS
 shadow:∀ n,(nd y n).shadow=(nd d n).shadow
 inS:∀ n,(nd y n).inS=(nd d n).inS
 attr:∀ n s,s∉qYu->qKr y n s=qKr d n s
 rest:∀ n,0<=n->n≠k->nd y n=nd d n
section
variable {d y:Dc} {k:Int}
theorem SameBut.isM (H:SameBut d y k) (n:Int) (e:Bool):isM y n e=isM d n e:=by
 unfold Proofs.YtkhkbifdakikcaaGreatDoor.isM;rw [H.len,H.live,H.tag]
theorem SameBut.said (H:SameBut d y k) (n:Int) {s:Txt} (h:s∉qYu):said y n s=said d n s:=by
 unfold Proofs.YtkhkbifdakikcaaGreatDoor.said;rw [H.attr n s h]
theorem SameBut.hasA (H:SameBut d y k) (n:Int) {s:Txt} (h:s∉qYu):hasA y n s=hasA d n s:=by
 unfold Proofs.YtkhkbifdakikcaaGreatDoor.hasA;rw [H.attr n s h]
theorem SameBut.attrAt (H:SameBut d y k) (h:0<=n) (a:n≠k) (s:Txt):qKr y n s=qKr d n s:=by
 unfold qKr;rw [H.isM,H.rest n h a]
theorem SameBut.saidAt (H:SameBut d y k) (h:0<=n) (a:n≠k) (s:Txt):Proofs.YtkhkbifdakikcaaGreatDoor.said y n s=Proofs.YtkhkbifdakikcaaGreatDoor.said d n s:=by
 unfold Proofs.YtkhkbifdakikcaaGreatDoor.said;rw [H.attrAt h a]
theorem SameBut.sqAt (H:SameBut d y k) (h:0<=n) (a:n≠k) (s:Txt):sq y n s=sq d n s:=by
 unfold sq;rw [H.saidAt h a]
theorem SameBut.hasAt (H:SameBut d y k) (h:0<=n) (a:n≠k) (s:Txt):Proofs.YtkhkbifdakikcaaGreatDoor.hasA y n s=Proofs.YtkhkbifdakikcaaGreatDoor.hasA d n s:=by
 unfold Proofs.YtkhkbifdakikcaaGreatDoor.hasA;rw [H.attrAt h a]
theorem SameBut.path (H:SameBut d y k):∀ f n,pathF y f n=pathF d f n:=by
 intro f;induction f with
 | zero=>intro n;rfl
 | succ f i=>intro n;unfold pathF;rw [H.isM,H.up,i]
theorem SameBut.scope (H:SameBut d y k) (n:Int):qQ3 y n=qQ3 d n:=by
 unfold qQ3 qFi;rw [H.len,H.path];simp only [H.inS,H.up]
theorem SameBut.allF (H:SameBut d y k):∀ f n,allF y f n=allF d f n:=by
 intro f;induction f with
 | zero=>intro n;rfl
 | succ f i=>
   intro n;have e:Proofs.YtkhkbifdakikcaaGreatDoor.allF y f=Proofs.YtkhkbifdakikcaaGreatDoor.allF d f:=funext i;unfold Proofs.YtkhkbifdakikcaaGreatDoor.allF;rw [H.isM,H.shadow,H.kids,e]
theorem SameBut.allM (H:SameBut d y k):allM y=allM d:=funext (H.allF 100)
theorem SameBut.slotR (H:SameBut d y k):slotR y=slotR d:=by
 funext n;unfold Proofs.YtkhkbifdakikcaaGreatDoor.slotR;rw [H.isM,H.inS,H.up,H.hasS,H.shadow,H.allM,H.said n (by decide)];have e:∀ a b,qXo y a b=qXo d a b:=fun a b=>by
  funext z;unfold qXo;rw [H.tag,H.scope,H.said z (by decide)]
 rw [e]
theorem SameBut.givenR (H:SameBut d y k):givenR y=givenR d:=by
 funext n;unfold Proofs.YtkhkbifdakikcaaGreatDoor.givenR qYe;rw [H.isM,H.tag,H.scope,H.kids,H.slotR]
theorem SameBut.kidsR (H:SameBut d y k):kidsR y=kidsR d:=by
 funext n;unfold Proofs.YtkhkbifdakikcaaGreatDoor.kidsR;rw [H.isM,H.hasS,H.shadow,H.kids,H.givenR]
theorem SameBut.upR (H:SameBut d y k):upR y=upR d:=by
 funext n;unfold Proofs.YtkhkbifdakikcaaGreatDoor.upR;rw [H.kidsR,H.len]
theorem SameBut.ups (H:SameBut d y k) (n:Int):ups y n=ups d n:=by
 unfold Proofs.YtkhkbifdakikcaaGreatDoor.ups;rw [H.upR]
theorem SameBut.shownR (H:SameBut d y k):shownR y=shownR d:=by
 unfold Proofs.YtkhkbifdakikcaaGreatDoor.shownR;rw [H.kidsR]
theorem SameBut.findD (H:SameBut d y k):findD y=findD d:=by
 funext n i;unfold Proofs.YtkhkbifdakikcaaGreatDoor.findD;rw [H.isM,H.allM];have e:∀ z,Proofs.YtkhkbifdakikcaaGreatDoor.said y z idT=Proofs.YtkhkbifdakikcaaGreatDoor.said d z idT:=fun z=>H.said z (by decide);simp only [H.scope,e]
theorem SameBut.claims (H:SameBut d y k):qQv y=qQv d:=by
 have e:∀ l n a,onB y l n a=onB d l n a:=fun l n a=>by
  unfold onB inM;rw [H.upR]
 have E:qZi y=qZi d:=by
  funext n l i;unfold qZi;rw [H.findD,H.shownR,e]
 have b:qZ8 y=qZ8 d:=by
  funext l n;unfold qZ8;rw [E,H.said n (by decide)]
 unfold qQv;rw [b,H.shownR]
theorem SameBut.inside (H:SameBut d y k) (C:List Clm) (n:Int):qQp y C n=qQp d C n:=by
 unfold qQp;rw [H.kidsR]
theorem SameBut.hid (H:SameBut d y k) (n:Int):qZa y n=qZa d n:=by
 have e:∀ f n,hidF y f n=hidF d f n:=by
  intro f;induction f with
  | zero=>intro n;rfl
  | succ f i=>
    intro n;unfold hidF offM sq;rw [H.isM,H.hasA n (by decide),H.said n (by decide),H.upR,i]
 exact e 100 n
theorem SameBut.labelled (H:SameBut d y k) (h:0<=n) (a:n≠k):qZr y n=qZr d n:=by
 unfold qZr;rw [H.sqAt h a,H.sqAt h a]
theorem SameBut.base (H:SameBut d y k) (h:0<=n) (a:n≠k):qXh y n=qXh d n:=by
 have e:qWf y n=qWf d n:=by
  unfold qWf;rw [H.labelled h a,H.saidAt h a]
 have E:qZl y n=qZl d n:=by
  unfold qZl;rw [H.tag,H.labelled h a,H.sqAt h a,H.sqAt h a,H.sqAt h a,H.hasAt h a,H.hasAt h a]
 unfold qXh;rw [e,E]
theorem SameBut.rn (H:SameBut d y k):∀ f n,k∉qZ3 (Proofs.YtkhkbifdakikcaaGreatDoor.upR d) f n->rnF y f n=rnF d f n:=by
 intro f;induction f with
 | zero=>intro n _;rfl
 | succ f i=>
   intro n h;rw [zQt,zQt];by_cases a:n<0
   ·rw [if_pos a,if_pos a]
   ·rw [if_neg a,if_neg a,H.upR];unfold qZ3 at h;rw [if_neg a] at h;simp only [List.mem_cons,not_or] at h;rw [i _ h.2];unfold zKm;rw [H.isM,H.tag,H.base (by omega) (fun e=>h.1 e.symm)]
theorem SameBut.role (H:SameBut d y k) (h:k∉Proofs.YtkhkbifdakikcaaGreatDoor.ups d n):qQd y n=qQd d n:=by
 unfold qQd;rw [H.rn 100 n h]
theorem qVv {one:Int->St->Txt×St} (H:∀ k s x,s.asked x=true->(one k s).2.asked x=true):∀ (K:List Int) (s:St) (x:Int),s.asked x=true->(eachF one K s).2.asked x=true:=by
 intro K;induction K with
 | nil=>intro s x h;exact h
 | cons k K i=>
   intro s x h;unfold eachF;split
   ·exact i _ _ (H _ _ _ h)
   ·exact i _ _ h
theorem zZv (H:∀ k l s x,s.asked x=true->(one k l s).2.asked x=true) (h:s.asked x=true):(step1 d one n w s).2.asked x=true:=by
 unfold step1;split
 ·exact h
 ·exact qVv (fun k s x h=>H k true s x h) _ _ _ h
theorem zGj {one:Int->St->Txt×St} (H:∀ k s x,s.asked x=true->(one k s).2.asked x=true) (h:s.asked x=true):(qXm d one n s).2.asked x=true:=by
 unfold qXm;split
 ·exact h
 ·split
  ·split
   ·exact H _ _ _ h
   ·exact h
  ·exact h
theorem qWx (H:∀ k l s x,s.asked x=true->(one k l s).2.asked x=true) (h:s.asked x=true):(qHy d C one n w li s).2.asked x=true:=by
 unfold qHy;split
 ·exact qVv (fun k s x h=>H k li s x h) _ _ _ h
 ·exact h
theorem zZe (H:∀ k l s x,s.asked x=true->(one k l s).2.asked x=true) (h:s.asked x=true):(step2 d C one n w li s).2.asked x=true:=by
 have a:=zGj (d:=d) (n:=n) (fun k s x h=>H k false s x h) h;unfold step2;split
 ·exact h
 ·split
  ·exact h
  ·split
   ·exact a
   ·split
    ·exact qWx H a
    ·exact qWx H a
theorem zQ8 (H:∀ k l s x,s.asked x=true->(one k l s).2.asked x=true) (h:(markM d n s).asked x=true):(qVd d C one n w li s).2.asked x=true:=by
 unfold qVd;split
 ·exact h
 ·split
  ·exact h
  ·split
   ·exact zZv H h
   ·exact zZe H (zZv H h)
theorem zFz (h:s.asked x=true):(markM d n s).asked x=true:=by
 simp [markM,h]
theorem qY1:∀ (f:Nat) (n:Int) (w l:Bool) (s:St) (x:Int),s.asked x=true->(qQs d C f n w l s).2.asked x=true:=by
 intro f;induction f with
 | zero=>intro n w l s x h;exact h
 | succ f i=>
   intro n w l s x h;rw [qDb];exact zQ8 (fun k l s x h=>i k true l s x h) (zFz h)
theorem qD0 {one o:Int->St->Txt×St} (a:∀ j s x,s.asked x=true->(one j s).2.asked x=true) (c:∀ j s,0<=j->(one j s).2.asked k=false->o j s=one j s):∀ (K:List Int) (s:St),(eachF one K s).2.asked k=false->eachF o K s=eachF one K s:=by
 intro K;induction K with
 | nil=>intro s _;rfl
 | cons j K i=>
   intro s h;unfold eachF at h ⊢;split
   ·rename_i H;rw [if_pos H] at h;have b:(one j s).2.asked k=false:=by
     cases e:(one j s).2.asked k with
     | false=>rfl
     | true=>rw [qVv a K _ _ e] at h;simp at h
    rw [c j s H.1 b,i _ h]
   ·rename_i H;rw [if_neg H] at h;exact i _ h
theorem qXw {a b:Bool} (h:a=true->b=true) (H:b=false):a=false:=by
 cases a with
 | false=>rfl
 | true=>rw [h rfl] at H;simp at H
theorem allF_is:∀ (f:Nat) (n x:Int),x∈allF d f n->Proofs.YtkhkbifdakikcaaGreatDoor.isM d x false=true:=by
 intro f;induction f with
 | zero=>intro n x h;simp [Proofs.YtkhkbifdakikcaaGreatDoor.allF] at h
 | succ f i=>
   intro n x h;unfold Proofs.YtkhkbifdakikcaaGreatDoor.allF at h;split at h
   ·rcases List.mem_cons.1 h with rfl | h
    ·assumption
    ·obtain ⟨z,_,H⟩:=List.mem_flatMap.1 h;exact i z x H
   ·simp at h
theorem zKj (H:SameBut d y k) :∀ (f:Nat) (n:Int) (w l:Bool) (s:St),0<=n->(qQs d C f n w l s).2.asked k=false->qQs y C f n w l s=qQs d C f n w l s:=by
 intro f;induction f with
 | zero=>intro n w l s _ _;rfl
 | succ f Q=>
   intro n w l s b a;rw [qDb] at a ⊢;rw [qDb];have M:∀ j l s x,s.asked x=true->(qQs d C f j true l s).2.asked x=true:=fun j l s x h=>qY1 f j true l s x h;have P:(markM d n s).asked k=false:=qXw (fun h=>zQ8 (C:=C) (w:=w) (li:=l) M h) a;have u:k∉ups d n:=by
    intro h;simp [markM,h] at P
   have g:n≠k:=by
    intro e;apply u;subst e;unfold ups;show n∈qZ3 (upR d) (99+1) n;unfold qZ3;rw [if_neg (by omega)];exact List.mem_cons_self
   have I:∀ (l:Bool) (j:Int) (s:St),0<=j->(qQs d C f j true l s).2.asked k=false->qQs y C f j true l s=qQs d C f j true l s:=fun l j s c h=>Q j true l s c h;have J:markM y n s=markM d n s:=by
    unfold markM;rw [H.ups]
   have E:=H.role u;have A:∀ s,(step1 d (fun j l s=>qQs d C f j true l s) n w s).2.asked k=false->step1 y (fun j l s=>qQs y C f j true l s) n w s=step1 d (fun j l s=>qQs d C f j true l s) n w s:=fun s h=>by
    unfold step1 at h ⊢;split
    ·rfl
    ·rename_i i;rw [if_neg i] at h;unfold qYq at h ⊢;rw [H.findD,H.saidAt b g];rw [qD0 (fun j s x h=>M j true s x h) (fun j s c h=>I true j s c h) _ _ h]
   have D:∀ s,(qXm d (fun j=>qQs d C f j true false) n s).2.asked k=false->qXm y (fun j=>qQs y C f j true false) n s=qXm d (fun j=>qQs d C f j true false) n s:=fun s h=>by
    have G:qXa y n s=qXa d n s:=by
     funext j;unfold qXa;rw [H.tag,H.said j (by decide),H.said n (s:=idT) (by decide),H.scope,H.scope]
    unfold qXm at h ⊢;rw [H.tag,H.sqAt b g,H.saidAt b g,H.findD,H.allM,G];split
    ·rfl
    ·rename_i O;rw [if_neg O] at h;split
     ·rename_i c;rw [if_pos c] at h;cases o:(Proofs.YtkhkbifdakikcaaGreatDoor.allM d 0).find? (qXa d n s) with
      | none=>rfl
      | some j=>
        rw [o] at h;have:=allF_is 100 0 j (List.mem_of_find?_eq_some o);exact I false j s (qQh.1 this).1 h
     ·rfl
   have F:∀ s,(qHy d C (fun j l s=>qQs d C f j true l s) n w l s).2.asked k=false->qHy y C (fun j l s=>qQs y C f j true l s) n w l s=qHy d C (fun j l s=>qQs d C f j true l s) n w l s:=fun s h=>by
    unfold qHy at h ⊢;rw [E];split
    ·rename_i i;rw [if_pos i] at h;unfold qYh at h ⊢;rw [H.inside];rw [qD0 (fun j s x h=>M j l s x h) (fun j s c h=>I l j s c h) _ _ h]
    ·rfl
   unfold qVd at a ⊢;rw [H.hid,H.tag,J,H.rest n b g];split
   ·rfl
   ·rename_i p;rw [if_neg p] at a;split
    ·rfl
    ·rename_i q;rw [if_neg q] at a;have K:(step1 d (fun j l s=>qQs d C f j true l s) n w (hitM n (markM d n s))).2.asked k=false:=by
      split at a
      ·exact a
      ·exact qXw (fun h=>zZe (n:=n) (w:=w) (li:=l) (C:=C) M h) a
     rw [A _ K];split
     ·rfl
     ·rename_i c3;rw [if_neg c3] at a;generalize step1 d (fun j l s=>qQs d C f j true l s) n w (hitM n (markM d n s))=r at *
      unfold step2 at a ⊢;rw [H.sqAt b g,H.sqAt b g,H.sqAt b g,E];split
      ·rfl
      ·rename_i c4;rw [if_neg c4] at a;split
       ·rfl
       ·rename_i t;rw [if_neg t] at a;have N:(qXm d (fun j=>qQs d C f j true false) n r.2).2.asked k=false:=by
         split at a
         ·exact a
         ·split at a
          ·exact qXw (fun h=>qWx (n:=n) (w:=w) (li:=l) (C:=C) M h) a
          ·exact qXw (fun h=>qWx (n:=n) (w:=w) (li:=l) (C:=C) M h) a
        rw [D _ N];split
        ·rfl
        ·rename_i z;rw [if_neg z] at a;have hC:(qHy d C (fun j l s=>qQs d C f j true l s) n w l (qXm d (fun j=>qQs d C f j true false) n r.2).2).2.asked k=false:=by
          split at a
          ·exact a
          ·exact a
         rw [F _ hC]
theorem zGs (H:SameBut d y k) (D:Proofs.YtkhkbifdakikcaaGreatDoor.isM d k false=true) (u:k∉(qJn d C n).uses):qJn y C n=qJn d C n:=by
 unfold qJn at u ⊢;rw [H.isM];split
 ·rename_i g;rw [if_pos g] at u;have f:0<=n:=(qQh.1 g).1;simp only at u;have a:(qV0 d C n (qXg d C n)).2.asked k=false:=by
   cases e:(qV0 d C n (qXg d C n)).2.asked k with
   | false=>rfl
   | true=>
     refine absurd ?_ u;obtain ⟨q,G,rfl,-⟩:=qQy.1 D;exact List.mem_filter.2 ⟨List.mem_map.2 ⟨q,List.mem_range.2 G,rfl⟩,e⟩
  have z:∀ s x,s.asked x=true->(qYv d C n s).2.asked x=true:=fun s x h=>qVv (fun j s x h=>qY1 100 j true true s x h) _ _ _ h;have b:(qXg d C n).2.asked k=false:=by
   refine qXw (fun h=>?_) a;unfold qV0;split
   ·exact z _ _ h
   ·exact h
  have F:(markM d n noSt).asked k=false:=by
   refine qXw (fun h=>?_) b;unfold qXg;split
   ·exact qY1 _ _ _ _ _ _ h
   ·exact h
  have u:k∉ups d n:=by
   intro h;simp [markM,h] at F
  have i:n≠k:=by
   intro e;apply u;subst e;unfold ups;show n∈qZ3 (upR d) (99+1) n;unfold qZ3;rw [if_neg (by omega)];exact List.mem_cons_self
  have r:markM y n noSt=markM d n noSt:=by
   unfold markM;rw [H.ups]
  have E:qXg y C n=qXg d C n:=by
   unfold qXg at b ⊢;rw [H.tag,H.role u,r];split
   ·rename_i c;rw [if_pos c] at b;exact zKj H 100 n false false _ f b
   ·rfl
  rw [E];have o:qV0 y C n (qXg d C n)=qV0 d C n (qXg d C n):=by
   unfold qV0 at a ⊢;rw [H.tag,H.sqAt f i];split
   ·rename_i c;rw [if_pos c] at a;have p:qYv y C n (qXg d C n).2=qYv d C n (qXg d C n).2:=by
     unfold qYv qYq at a ⊢;rw [H.findD,H.saidAt f i];rw [qD0 (fun j s x h=>qY1 100 j true true s x h) (fun j s A h=>zKj H 100 j true true s A h) _ _ a]
    rw [p]
   ·rfl
  rw [o];have t:qWm y=qWm d:=by
   funext s;unfold qWm;rw [H.len]
  rw [t]
 ·rfl
end
def qKo (x:Chg):Bool:=x.kind==7||((x.kind==5||x.kind==6)&&qYu.contains x.name)
theorem qYi {d:Dc} {a b:Int} (h:a.toNat=b.toNat):nd d a=nd d b:=by unfold nd;rw [h]
theorem zB6 {n v s:Txt} (b:s≠n):∀ l:List Att,qJc (insA n v l) s=qJc l s:=by
 have H:((⟨n,v⟩:Att).name==s)=false:=by simpa using fun e:n=s=>b e.symm
 intro l;induction l with
 | nil=>
   unfold insA qJc;rw [List.find?_cons,H]
 | cons a l i=>
   unfold insA;split
   ·rename_i h;have c:(a.name==s)=false:=(by simpa using fun e:a.name=s=>b (e.symm.trans h));unfold qJc;rw [List.find?_cons,List.find?_cons,H,c]
   ·split
    ·unfold qJc at i ⊢;rw [List.find?_cons,List.find?_cons];cases h:(a.name==s) with
     | true=>rfl
     | false=>exact i
    ·unfold qJc;rw [List.find?_cons,H]
theorem zYl {n s:Txt} (b:s≠n):∀ l:List Att,qJc (l.filter (fun a=>a.name != n)) s=qJc l s:=by
 intro l;induction l with
 | nil=>rfl
 | cons a l i=>
   unfold qJc at i ⊢;rw [List.filter_cons];split
   ·rw [List.find?_cons,List.find?_cons];cases h:(a.name==s) with
    | true=>rfl
    | false=>exact i
   ·rename_i h;have h:a.name=n:=(by simpa using h);have H:(a.name==s)=false:=(by simpa using fun e:a.name=s=>b (e.symm.trans h));rw [List.find?_cons,H];exact i
theorem zYy {d y:Dc} {k:Int} {X:Nd} (g:Good d) (G:Good y) (D:isM d k false=true) (O:∀ n,nd y n=nd (qZq d k.toNat X) n)
 (F:X.live=(nd d k).live) (M:X.tag=(nd d k).tag) (N:X.up=(nd d k).up) (E:X.kids=(nd d k).kids) (z:X.hasS=(nd d k).hasS) (J:X.shadow=(nd d k).shadow) (A:X.inS=(nd d k).inS)
 (ha:∀ s,s∉qYu->qJc X.attrs s=qJc (nd d k).attrs s):SameBut d y k:=by
 have P:=qJq D;have c:∀ n,nd y n=if n.toNat=k.toNat then X else nd d n:=fun n=>by rw [O,qBj (by omega)]
 have f:∀ n,(nd y n).live=(nd d n).live:=fun n=>by
  rw [c];split
  ·rename_i h;rw [F,qYi h]
  ·rfl
 have t:∀ n,(nd y n).tag=(nd d n).tag:=fun n=>by
  rw [c];split
  ·rename_i h;rw [M,qYi h]
  ·rfl
 have p:y.length=d.length:=by
  have K:∀ {a b:Dc},Good a->(∃ r,G0 qQk 16 r b)->(∀ n,(nd a n).live=(nd b n).live)->a.length<=b.length:=by
   intro a b q u H;obtain ⟨r,i⟩:=u;rcases q.last with j | j
   ·have:=i.pos;omega
   ·have o:=qQh.1 j;rw [H] at o;have:=(qJq (qQh.2 o)).1;omega
  exact Nat.le_antisymm (K G g.tree f) (K g G.tree (fun n=>(f n).symm))
 refine ⟨p,f,t,?_,?_,?_,?_,?_,?_,?_⟩
 ·intro n;rw [c];split
  ·rename_i h;rw [N,qYi h]
  ·rfl
 ·intro n;rw [c];split
  ·rename_i h;rw [E,qYi h]
  ·rfl
 ·intro n;rw [c];split
  ·rename_i h;rw [z,qYi h]
  ·rfl
 ·intro n;rw [c];split
  ·rename_i h;rw [J,qYi h]
  ·rfl
 ·intro n;rw [c];split
  ·rename_i h;rw [A,qYi h]
  ·rfl
 ·intro n s I;have e:isM y n true=isM d n true:=by
   unfold isM;rw [p,f,t]
  unfold qKr;rw [e];split
  ·rw [c];split
   ·rename_i h;rw [ha s I,qYi h]
   ·rfl
  ·rfl
 ·intro n i Q;rw [c,if_neg (by omega)]
theorem zBk {d:Dc} {x:Chg} (g:Good d) (a:(qQ7 d x).1=0) (p:qKo x=true):SameBut d (qQ7 d x).2.2 x.node/\isM d x.node false=true/\(qQ7 d x).2.1=x.node:=by
 have G:=qHx g a;revert a G;unfold qQ7;split
 ·intro a;simp at a
 ·rename_i F;split
  ·intro a;simp at a
  ·rename_i o;have b:isM d x.node false=true:=(by simpa using o);split
   ·rename_i c3;intro _ G;dsimp only at G ⊢;obtain ⟨⟨r,g1⟩,_⟩:=qBo g b c3;have H:=g1.trim.1;have i:qYu.contains x.name=true->∀ s,s∉qYu->s≠x.name:=fun h s c e=>c (by rw [e];simpa using h);generalize I:qYz (qQ8 d x).2.2=D at *
    unfold qQ8 at c3 H ⊢;unfold qKo at p;simp only [Bool.or_eq_true,Bool.and_eq_true,beq_iff_eq] at p;rcases p with E | ⟨z | A,j⟩
    ·simp only [E,show ¬ ((7:Int)=3) by decide,show ¬ ((7:Int)=4) by decide,if_false,if_true] at c3 H ⊢;unfold sayM at c3 H ⊢;split at c3
     ·simp at c3
     ·rename_i c4;rw [if_neg c4] at H ⊢;exact ⟨zYy g G b H rfl rfl rfl rfl rfl rfl rfl (fun _ _=>rfl),b,rfl⟩
    ·simp only [z,show ¬ ((5:Int)=3) by decide,show ¬ ((5:Int)=4) by decide,show ¬ ((5:Int)=7) by decide,if_false,if_true] at c3 H ⊢;split at c3
     ·simp at c3
     ·rename_i c4;rw [if_neg c4] at H ⊢;unfold qK1 at c3 H ⊢;split at c3
      ·simp at c3
      ·rename_i f;rw [if_neg f] at H ⊢;split at c3
       ·simp at c3
       ·rename_i q;rw [if_neg q] at H ⊢;split at c3
        ·simp at c3
        ·rename_i t;rw [if_neg t] at H ⊢;obtain ⟨R,u⟩:=g.tree;refine ⟨zYy g G b H rfl rfl rfl rfl rfl rfl rfl (fun s c=>?_),b,rfl⟩;rw [zJm (u.ok x.node).rising];exact zB6 (i j s c) _
    ·simp only [A,show ¬ ((6:Int)=3) by decide,show ¬ ((6:Int)=4) by decide,show ¬ ((6:Int)=7) by decide,show ¬ ((6:Int)=5) by decide,if_false,if_true] at c3 H ⊢;split at c3
     ·simp at c3
     ·rename_i c4;rw [if_neg c4] at H ⊢;unfold qGq at c3 H ⊢;split at c3
      ·simp at c3
      ·rename_i f;rw [if_neg f] at H ⊢;exact ⟨zYy g G b H rfl rfl rfl rfl rfl rfl rfl (fun s c=>zYl (i j s c) _),b,rfl⟩
   ·intro a;exact absurd a (by assumption)
end Go.Proofs.YtkhkbifdakikcaaGreatDoor
set_option maxRecDepth 100000
set_option maxHeartbeats 1000000
namespace Go.Proofs.YtkhkbifdakikcaaGreatDoor
open Go.RowKit
structure Me where
 node:Int
 name:Txt
 about:Txt
 uses:List Int
variable {x:Int} {l:List Me} {cs:List Value} {g1 m n:Nat} {B C:Nat->Prop} {v:Value} {w w':World}
def meOf (n:Int) (m:Mm):Me:=⟨n,m.name,m.about,m.uses⟩
def qH3 (m:Me) (v:Value):List Value:=[.int .i64 m.node,.string ⟨m.name.toArray⟩,.string ⟨m.about.toArray⟩,v]
def rdMe (B:Nat->Prop):World->List Value->Me->Prop:=fun w cs m=>∃ v,cs=qH3 m v/\qQa 1 qQf B w v m.uses
abbrev qKb (B:Nat->Prop) (w:World) (v:Value) (l:List Me):Prop:=qQa 4 (rdMe B) B w v l
theorem rdMe.agree (ha:qZt B w w') {m:Me} (h:rdMe B w cs m):rdMe B w' cs m:=by
 obtain ⟨v,H,a⟩:=h;exact ⟨v,H,a.agree ha (fun _ _ _ h=>h)⟩
theorem rdMe.mono (c:∀ b,B b->C b) {m:Me} (h:rdMe B w cs m):rdMe C w cs m:=by
 obtain ⟨v,H,a⟩:=h;exact ⟨v,H,a.mono c (fun _ _ _ h=>h)⟩
theorem qKb.agree (h:qKb B w v l) (ha:qZt B w w'):qKb B w' v l:=qQa.agree h ha (fun _ _ _ H=>H.agree ha)
theorem qKb.mono (h:qKb B w v l) (H:∀ b,B b->C b):qKb C w v l:=qQa.mono h H (fun _ _ _ r=>r.mono H)
theorem qKb.later (h:qKb (·<n) w v l) (H:Below m w w') (a:n<=m):qKb (·<n) w' v l:=
 h.agree (qZt.mono (qZt.below H) (fun _ H=>Zc H a))
theorem qKb.up (h:qKb (·<n) w v l) (H:Bel w w') (a:n<=w.heap.size):qKb (·<w'.heap.size) w' v l:=
 (h.later H a).mono (fun _ h=>Zc (Zc h a) H.size)
structure MeC (B:Nat->Prop) (w:World) (b o:Nat) (m:Me) (uv:Value):Prop where
 node:w.cell? ⟨b,o,none⟩=some (.int .i64 m.node)
 name:w.cell? ⟨b,o+1,none⟩=some (.string ⟨m.name.toArray⟩)
 about:w.cell? ⟨b,o+2,none⟩=some (.string ⟨m.about.toArray⟩)
 uses:w.cell? ⟨b,o+3,none⟩=some uv
 usesAt:qQa 1 qQf B w uv m.uses
theorem qKb.item (h:qKb B w v l) (i:Nat) (q:i<l.length) :
 ∃ b o c u,v=.slice (some ⟨b,o,none⟩) l.length c/\l.length<=c/\c<=9223372036854775807/\B b/\MeC B w b (o+i*4) l[i] u:=by
 obtain ⟨a,r,e,E,g⟩:=Rf h;obtain ⟨b,o,c,cs,f,j,t,H,u,rfl,p⟩:=qQa.elem h i q;rw [f] at e;simp at e;obtain ⟨_,rfl⟩:=e;exact ⟨b,o,c,u,f,E,g,j,by simpa using H 0 _ rfl,H 1 _ rfl,H 2 _ rfl,H 3 _ rfl,p⟩
def idxMe (x:Int):List Me->Nat->Int
 | [],_=>-1
 | m::l,i=>if m.node==x then (i:Int) else idxMe x l (i+1)
theorem zWt {j:Nat} (h:j<l.length):idxMe x (l.drop j) j=if l[j].node==x then (j:Int) else idxMe x (l.drop (j+1)) (j+1):=by
 rw [List.drop_eq_getElem_cons h];rfl
theorem zZ9 (H:w.cell? ⟨g1,0,none⟩=some (.int .i64 x)) (n:Int) (a b:Txt) (u:Option Addr) (e U:Nat) :
 Calls Tryz.prog 26 #[.agg #[.int .i64 n,.string ⟨a.toArray⟩,.string ⟨b.toArray⟩,.slice u e U],.pointer (some ⟨g1,0,none⟩)] w (Rb (.bool (n==x)) w):=by
 have f:=World.block_lt_of_cell? w _ H;obtain ⟨W,h⟩:∃ W,W=w.alloc (.cells #[.int .i64 n,.string ⟨a.toArray⟩,.string ⟨b.toArray⟩,.slice u e U] 60):=⟨_,rfl⟩;have c:Bel w W:=by rw [h];exact (Br w).alloc _
 have K:Blk W w.heap.size [.int .i64 n,.string ⟨a.toArray⟩,.string ⟨b.toArray⟩,.slice u e U] 60:=by rw [h];exact Blk.new' w _ rfl _ _
 have i:=K.cell 0;have j:=(c.cells g1 0 f).trans H;simp only [Zd] at i;have g:=lH c;clear c K H f;go_enter Tryz.func26,Tryz.ntmps26
 go_upto_region 1 with fail
 rw [<- h];clear h;go_wp2;go_ret;exact ⟨rfl,g.o⟩
theorem qG0 (hv:qKb (·<m) w v l) (hm:m<=w.heap.size) (g:w.cell? ⟨g1,0,none⟩=some (.int .i64 x)) :
 Calls Tryz.prog 25 #[v,.func (.func 26) #[] #[.pointer (some ⟨g1,0,none⟩)]] w (Rb (.int .i64 (idxMe x l 0)) w):=by
 have o:=World.block_lt_of_cell? w _ g;obtain ⟨Y,Z,rfl,_,_⟩:=Rf hv;have V:=lH hv;have q:=lH (fun (W:World) (D:Bel w W)=>(D.cells g1 0 o).trans g);clear hv g o;go_enter Tryz.func25,Tryz.ntmps25
 go_wp2;go_loopw [8] (fun z wr=>∃ j:Nat,j<=l.length/\z=.int .i64 j/\idxMe x (l.drop j) j=idxMe x l 0/\Bel w wr) (fun z _=>l.length - (intOf z).toNat)
 case atStart=>exact ⟨0,by omega,rfl,rfl,Br _⟩
 case round=>
  obtain ⟨j,S,rfl,i,a⟩:=hrel;have F:=lH i;have e:=lH a;by_cases t:j<l.length
  ·obtain ⟨b,T,P,X,E,_,_,Q,h⟩:=(V.o.later a hm).item j t;simp at E;obtain ⟨rfl,rfl⟩:=E;have r:=h.node;have u:=h.name;have A:=h.about;have c3:=h.uses;obtain ⟨U,N,rfl,_,_⟩:=Rf h.usesAt;have I:=lH (zWt (x:=x) t);have cc:=q.o _ a;clear i a h;generalize l[j]=M at *
   obtain ⟨p,J,G,K⟩:=M;simp only at r u A c3 I;have c:=lH (zZ9 cc p J G U K.length N);cases H:p==x with
   | true=>
     rw [H] at c;have R:Hi (idxMe x l 0=(j:Int)):=lH (by rw [<- F.o,I.o,H];rfl);clear H cc;go_wp2_with (go_at_call 26;(with_reducible refine qQe c.o e fun O f=>?_))
     go_ret;exact ⟨qQr R.o.symm,f.o⟩
   | false=>
     rw [H] at c;have R:Hi (idxMe x (l.drop (j+1)) (j+1)=idxMe x l 0):=lH (by rw [<- F.o,I.o,H];rfl);clear H cc;go_wp2_with (go_at_call 26;(with_reducible refine qQe c.o e fun O f=>?_))
     go_roundw;case rel=>exact ⟨j+1,by omega,by go_num,R.o,f.o⟩
     case measure=>simp [intOf];omega
  ·have R:Hi (idxMe x l 0 = -1):=lH (by rw [<- F.o,List.drop_of_length_le (by omega)];rfl);clear i a;go_wp2;go_ret;exact ⟨qQr R.o.symm,e.o⟩
def qVm (m:Me) (dirty:List Int):Bool:=!m.uses.any dirty.contains
theorem zXq {a:Value} {N:List Int} {g:Nat} (h:qKn m w a N) (hg:w.cell? ⟨g,0,none⟩=some a) (x:Int) :
 Calls Tryz.prog 55 #[.int .i64 x,.pointer (some ⟨g,0,none⟩)] w (Rb (.bool (N.contains x)) w):=by
 have c:=lH (qJk m a N x w h);obtain ⟨V,b,rfl,_,_⟩:=Rf h;clear h;go_enter Tryz.func55,Tryz.ntmps55
 go_wp2_with (go_at_call 21;(with_reducible refine c.o.mono ?_);rintro e W ⟨rfl,rfl⟩)
 go_ret;exact ⟨qJo (by simp),Br _⟩
theorem zF9 (args:Array Value) (w:World):(callFunc 55 args).run Tryz.prog w=.ok (.enter 55 args) w:=by kernel_rfl
theorem qYy {b o:Nat} {j I:Value} {D:List Int} {M:Me} (c:MeC B w b o M I) (p:∀ x,B x->x<w.heap.size) (hd:qKn m w j D) (hm:m<=w.heap.size) :
 Calls Tryz.prog 27 #[.pointer (some ⟨b,o,none⟩),j] w (Rb (.bool (qVm M D)) w):=by
 have G:=World.block_lt_of_cell? w _ c.node;obtain ⟨u,z,rfl,_,_⟩:=Rf c.usesAt;obtain ⟨g,i,rfl,_,_⟩:=Rf hd;obtain ⟨a,e⟩:∃ a,a=w.alloc (.cells #[.slice g D.length i] 28):=⟨_,rfl⟩;have H:Bel w a:=by rw [e];exact (Br w).alloc _
 have K:Blk a w.heap.size [.slice g D.length i] 28:=by rw [e];exact Blk.new' w _ rfl _ _
 have c3:=(H.cells b _ G).trans c.uses;have U:qKn a.heap.size a (.slice u M.uses.length z) M.uses:=(qQa.agree c.usesAt (fun x f=>H.block x (p x f)) (fun _ _ _ h=>h)).mono (fun x f=>Zc (p x f) H.size) (fun _ _ _ h=>h);have q:=qQa.later hd qQc H hm;have F:Hi (Calls Tryz.prog 54 #[.slice u M.uses.length z,.func (.func 55) #[] #[.pointer (some ⟨w.heap.size,0,none⟩)]] a (Rb (.bool (M.uses.any D.contains)) a)):=lH (qKy 55 #[.pointer (some ⟨w.heap.size,0,none⟩)] D.contains zF9 a.heap.size _ M.uses a U (Zb _) (fun W t x=>zXq (qQa.later q qQc t (Za hm H.size)) ((K.bel t).cell 0) x));have A:=lH H;unfold qVm;generalize M.uses.any D.contains=r at *
 clear c H K U q hd;go_enter Tryz.func27,Tryz.ntmps27
 go_upto_region 1 with fail
 rw [<- e];clear e;go_wp2_with (go_at_call 54;(with_reducible refine qQe F.o A fun J E=>?_))
 go_ret;exact ⟨rfl,E.o⟩
