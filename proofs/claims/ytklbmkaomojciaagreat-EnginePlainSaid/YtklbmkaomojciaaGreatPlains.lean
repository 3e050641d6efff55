/- Plain laws: words, documents, who is in what, kinds, roles, names. -/
import GoSem.Op.String
namespace Go.Proofs.YtklbmkaomojciaaGreat
abbrev L:=List UInt8
def blank (c:UInt8):Bool:=c==32||c==9||c==10||c==13
def low (c:UInt8):UInt8:=if 65<=c/\c<=90 then c+32 else c
def zQ3:Option L->L->List L
 | none,[]=>[]
 | some w,[]=>[w]
 | none,c::r=>if blank c then zQ3 none r else zQ3 (some [c]) r
 | some w,c::r=>if blank c then w::zQ3 none r else zQ3 (some (w++[c])) r
def toks (s:L):List L:=zQ3 none s
def join:List L->L
 | []=>[]
 | [w]=>w
 | w::v::r=>w++32::join (v::r)
def squeeze (s:L):L:=join (toks s)
def qY6 (s:L):L:=s.map low
def digit (c:UInt8):Bool:=48<=c&&c<=57
def zQ1 (c:UInt8):Bool:=97<=c&&c<=122
def okc (c:UInt8):Bool:=zQ1 c||c==45||digit c
def chk (i:Nat) (c:UInt8):Bool:=zQ1 c||(i != 0&&okc c)
def qKc (i:Nat):L->Bool
 | []=>true
 | c::r=>chk i c&&qKc (i+1) r
def name (s:L):Bool:=decide (1<=s.length)&&decide (s.length<=20)&&qKc 0 s
theorem qH3 (s:L):(qY6 s).length=s.length:=by simp [qY6]
def Plain (q:L):Prop:=∀ i (hi:i<q.length),blank q[i]=true->q[i]=32/\0<i/\i+1<q.length/\∃ h:i - 1<q.length,q[i - 1]≠32
def qXl (s:L) (k:Nat):L:=(s.take k).map low++s.drop k
theorem qHp (s:L) (k:Nat):(qXl s k).length=s.length:=by simp [qXl];omega
theorem qDd (s:L):qXl s 0=s:=rfl
theorem zZj (s:L) (k:Nat) (h:s.length<=k):qXl s k=qY6 s:=by
 simp [qXl,qY6,List.take_of_length_le h,List.drop_eq_nil_of_le h]
theorem qFe {s:L} {k:Nat} (hk:k<s.length):(qXl s k)[k]'(by rw [qHp];exact hk)=s[k]:=by
 unfold qXl
 rw [List.getElem_append_right (by simp;omega)]
 simp [show min k s.length=k by omega]
theorem qWt {s:L} {k:Nat} (hk:k<s.length):qXl s (k+1)=(qXl s k).set k (low s[k]):=by
 unfold qXl
 have e1:=List.take_succ_eq_append_getElem hk
 have e2:=List.drop_eq_getElem_cons hk
 have e3:(s.take k).length=k:=by simp;omega
 generalize s[k]=c at *
 generalize s.drop (k+1)=r at *
 generalize s.take k=t at *
 rw [e1,e2,List.set_append_right _ _ (by simp;omega)]
 simp [e3]
theorem qD6 {s:L} {k:Nat} (hk:k<s.length) (h:low s[k]=s[k]):qXl s (k+1)=qXl s k:=by
 rw [qWt hk,h]
 have:=qFe hk
 rw [<- this]
 exact List.set_getElem_self _
theorem low_up {c:UInt8} (h1:65<=c.toNat) (h2:c.toNat<=90):low c=c+32/\(c+32).toNat=c.toNat+32:=by
 refine ⟨?_,by rw [UInt8.toNat_add];simp;omega⟩
 unfold low
 rw [if_pos]
 simp only [UInt8.le_iff_toNat_le]
 exact ⟨by simpa using h1,by simpa using h2⟩
theorem low_id {c:UInt8} (h:c.toNat<65∨90<c.toNat):low c=c:=by
 unfold low
 rw [if_neg]
 simp only [UInt8.le_iff_toNat_le]
 intro hh
 have h1:=hh.1;have h2:=hh.2
 simp at h1 h2
 omega
theorem qVk {s:L} {k:Nat} (hk:k<s.length):qKc k (s.drop k)=(chk k s[k]&&qKc (k+1) (s.drop (k+1))):=by
 have e:=List.drop_eq_getElem_cons hk
 generalize s[k]=c at *
 generalize s.drop (k+1)=r at *
 rw [e]
 rfl
theorem qDx (c:UInt8):c.toNat<45∨c.toNat=45∨(45<c.toNat/\c.toNat<48)∨(48<=c.toNat/\c.toNat<=57)∨(57<c.toNat/\c.toNat<97)∨(97<=c.toNat/\c.toNat<=122)∨122<c.toNat:=by omega
theorem zZv (c:UInt8):zQ1 c=decide (97<=c.toNat/\c.toNat<=122):=by
 simp [zQ1,UInt8.le_iff_toNat_le]
theorem zZx (c:UInt8):digit c=decide (48<=c.toNat/\c.toNat<=57):=by
 simp [digit,UInt8.le_iff_toNat_le]
theorem dash_iff (c:UInt8):(c==45)=decide (c.toNat=45):=by
 rw [Bool.eq_iff_iff]
 simp only [beq_iff_eq,decide_eq_true_eq]
 constructor
 ·rintro rfl;rfl
 ·intro h;apply UInt8.toNat_inj.1;simp [h]
theorem chk_eq (i:Nat) (c:UInt8):chk i c=(decide (97<=c.toNat/\c.toNat<=122)||(decide (i≠0)&&(decide (c.toNat=45)||decide (48<=c.toNat/\c.toNat<=57)||decide (97<=c.toNat/\c.toNat<=122)))):=by
 unfold chk okc
 rw [zZv,zZx,dash_iff]
 rw [show (i != 0)=decide (i≠0) by by_cases h:i=0 <;> simp [h]]
 rw [Bool.eq_iff_iff]
 simp
 omega
theorem qBb {s:L} {k:Nat} (hk:k<s.length) (h:qKc 0 s=qKc k (s.drop k)) (hc:chk k s[k]=false):name s=false:=by
 unfold name
 rw [h,qVk hk,hc]
 simp
abbrev Txt:=List UInt8
structure Att where
 name:Txt
 value:Txt
 deriving DecidableEq
structure Nd where
 live:Bool:=false
 tag:Txt:=[]
 text:Txt:=[]
 attrs:List Att:=[]
 up:Int:=0
 kids:List Int:=[]
 hasS:Bool:=false
 shadow:List Int:=[]
 inS:Bool:=false
 deriving DecidableEq
abbrev Dc:=List Nd
def nd (d:Dc) (n:Int):Nd:=d[n.toNat]?.getD {}
theorem qQv {d:Dc} {k:Nat} (h:k<d.length):nd d (k:Int)=d[k]:=by simp [nd,h]
def isM (d:Dc) (n:Int) (el:Bool):Bool:=decide (0<=n)&&decide (n<(d.length:Int))&&(nd d n).live&&(!el||!(nd d n).tag.isEmpty)
theorem qZg {d:Dc} {n:Int}:isM d n false=true↔∃ k:Nat,∃ h:k<d.length,n=(k:Int)/\d[k].live=true:=by
 constructor
 ·intro h
  simp [isM] at h
  obtain ⟨⟨h1,h2⟩,h3⟩:=h
  refine ⟨n.toNat,by omega,by omega,?_⟩
  have:n.toNat<d.length:=by omega
  simpa [nd,this] using h3
 ·rintro ⟨k,h,rfl,hl⟩
  simp [isM,h,qQv,hl]
theorem qQ2 {d:Dc} {n:Int} {el:Bool} (h:isM d n el=true):isM d n false=true:=by
 simp [isM] at h ⊢
 exact h.1
def qZk (l:List Att) (name:Txt):Option Txt:=(l.find? (fun a=>a.name==name)).map (·.value)
def qKr (d:Dc) (n:Int) (name:Txt):Option Txt:=if isM d n true then qZk (nd d n).attrs name else none
def pathF (d:Dc):Nat->Int->List Int
 | 0,_=>[]
 | f+1,n=>if isM d n false then n::pathF d f (nd d n).up else []
def qJ3 (d:Dc) (n:Int):List Int:=pathF d (d.length+1) n
theorem qYh (d:Dc):∀ f n,(pathF d f n).length<=f:=by
 intro f
 induction f with
 | zero=>intro n;simp [pathF]
 | succ f ih=>intro n;simp only [pathF];split <;> simp;exact ih _
theorem pathF_is {d:Dc}:∀ {f n x},x∈pathF d f n->isM d x false=true:=by
 intro f
 induction f with
 | zero=>intro n x h;simp [pathF] at h
 | succ f ih=>
   intro n x h
   simp only [pathF] at h
   split at h
   ·rcases List.mem_cons.1 h with rfl | h
    ·assumption
    ·exact ih h
   ·simp at h
def qKz (d:Dc) (n i:Int):Bool:=(qJ3 d n).contains i
def qXi (d:Dc) (n:Int):Int:=(((qJ3 d n).find? (fun k=>(nd d k).inS&&decide (0<=(nd d k).up))).map (fun k=>(nd d k).up)).getD 0
def allF (d:Dc):Nat->Int->List Int
 | 0,_=>[]
 | f+1,n=>if isM d n false then n::((nd d n).shadow++(nd d n).kids).flatMap (allF d f) else []
def Ends (d:Dc):Nat->Int->Prop
 | 0,_=>False
 | f+1,n=>isM d n false=true->∀ k∈(nd d n).shadow++(nd d n).kids,Ends d f k
theorem Ends.more {d:Dc}:∀ {f n},Ends d f n->Ends d (f+1) n:=by
 intro f
 induction f with
 | zero=>intro n h;exact h.elim
 | succ f ih=>intro n h hi k hk;exact ih (h hi k hk)
theorem Ends.le {d:Dc} {f g:Nat} {n:Int} (h:Ends d f n) (hg:f<=g):Ends d g n:=by
 induction hg with
 | refl=>exact h
 | step _ ih=>exact ih.more
def maxL (l:List Nat):Nat:=l.foldl max 0
def qQp (d:Dc):Nat->Int->Nat
 | 0,_=>0
 | f+1,n=>maxL (((nd d n).shadow++(nd d n).kids).map (fun k=>1+qQp d f k))
def qV4 (d:Dc):Nat->Int->Prop
 | 0,_=>False
 | f+1,n=>isM d n false=true/\∀ k∈(nd d n).shadow++(nd d n).kids,qV4 d f k
theorem qV4.ends {d:Dc}:∀ {f n},qV4 d f n->Ends d f n:=by
 intro f
 induction f with
 | zero=>intro n h;exact h.elim
 | succ f ih=>intro n h _ k hk;exact ih (h.2 k hk)
theorem zJp (l:List Nat) (a:Nat):maxL (l++[a])=max (maxL l) a:=by simp [maxL,List.foldl_append]
theorem zQy {l:List Nat} {b:Nat} (h:∀ x∈l,x<=b):maxL l<=b:=by
 have:∀ (l:List Nat) (s:Nat),s<=b->(∀ x∈l,x<=b)->l.foldl max s<=b:=by
  intro l
  induction l with
  | nil=>intro s hs _;exact hs
  | cons a l ih=>intro s hs hl;exact ih _ (Nat.max_le.2 ⟨hs,hl a (by simp)⟩) (fun x hx=>hl x (by simp [hx]))
 exact this l 0 (Nat.zero_le _) h
theorem qVd (d:Dc):∀ f n,qQp d f n<=f:=by
 intro f
 induction f with
 | zero=>intro n;exact Nat.le_refl _
 | succ f ih=>intro n;exact zQy (fun x hx=>by obtain ⟨k,_,rfl⟩:=List.mem_map.1 hx;have:=ih k;omega)
theorem le_maxL {l:List Nat} {a:Nat} (h:a∈l):a<=maxL l:=by
 have:∀ (l:List Nat) (s:Nat),s<=l.foldl max s/\∀ a∈l,a<=l.foldl max s:=by
  intro l
  induction l with
  | nil=>intro s;simp
  | cons b l ih=>
    intro s
    obtain ⟨h1,h2⟩:=ih (max s b)
    refine ⟨Nat.le_trans (Nat.le_max_left _ _) h1,fun a ha=>?_⟩
    rcases List.mem_cons.1 ha with rfl | ha
    ·exact Nat.le_trans (Nat.le_max_right _ _) h1
    ·exact h2 a ha
 exact (this l 0).2 a h
structure Chg where
 kind:Int:=0
 node:Int:=0
 dest:Int:=0
 before:Int:=0
 name:Txt:=[]
 value:Txt:=[]
 deriving DecidableEq
def qQn (d:Dc) (k:Nat) (x:Nd):Dc:=if k=d.length then d++[x] else d.set k x
def qQk (l:List Int) (k:Int):List Int:=l.filter (fun x=>x != k)
def atF (x:Int):List Int->Nat->Int->Int
 | [],_,a=>a
 | y::l,i,a=>atF x l (i+1) (if y=x then (i:Int) else a)
theorem atF_snoc (x y:Int):∀ (l:List Int) (i:Nat) (a:Int),atF x (l++[y]) i a=if y=x then ((i+l.length:Nat):Int) else atF x l i a:=by
 intro l
 induction l with
 | nil=>intro i a;simp [atF]
 | cons z l ih=>intro i a;simp only [List.cons_append,atF,ih,List.length_cons];split <;> simp;omega
theorem zZ4 (x:Int):∀ (l:List Int) (i:Nat) (a:Int),atF x l i a=a∨((i:Int)<=atF x l i a/\atF x l i a<i+l.length):=by
 intro l
 induction l with
 | nil=>intro i a;simp [atF]
 | cons z l ih=>
   intro i a
   simp only [atF,List.length_cons]
   rcases ih (i+1) (if z=x then (i:Int) else a) with h | h
   ·rw [h];split
    ·right;omega
    ·left;rfl
   ·right;omega
def qKk (d:Dc) (k:Int):Nat:=qQp d 100 k
def allM (d:Dc) (k:Int):List Int:=allF d 100 k
def insM (l:List Int) (a:Nat) (k:Int):List Int:=l.take a++[k]++l.drop a
def listM (x:Nd) (sh:Bool):List Int:=if sh then x.shadow else x.kids
def qZ0 (x:Nd) (sh:Bool) (l:List Int):Nd:=if sh then { x with shadow:=l } else { x with kids:=l }
def qJq (l:List Int) (before:Int):Int:=if 0<=before then atF before l 0 (-1) else l.length
def putD (d:Dc) (k i before:Int) (sh:Bool):Dc:=qQn d i.toNat (qZ0 (nd d i) sh (insM (listM (nd d i) sh) (qJq (listM (nd d i) sh) before).toNat k))
def putM (d:Dc) (k i before:Int) (sh:Bool):Int×Dc:=
 if qJq (listM (nd d i) sh) before<0 then (8,[])
 else if 12<=(listM (nd d i) sh).length then (5,[])
 else if 16<((qJ3 (putD d k i before sh) k).length:Int) - 1+qKk (putD d k i before sh) k then (3,[])
 else (0,putD d k i before sh)
def qZi (d:Dc):Nat:=d.findIdx (fun x=>!x.live)
def qZd (d:Dc) (x:Nd) (i before:Int) (sh:Bool):Int×Int×Dc:=
 if 60<=qZi d then (5,0,[])
 else
  let r:=putM (qQn d (qZi d) { x with live:=true,up:=i,inS:=sh }) (qZi d) i before sh
  (r.1,qZi d,r.2)
def qZf (d:Dc) (k:Int):Dc:=
 qQn d (nd d k).up.toNat { nd d (nd d k).up with kids:=qQk (nd d (nd d k).up).kids k,shadow:=qQk (nd d (nd d k).up).shadow k }
def attStep (name value:Txt) (p:List Att×Bool) (a:Att):List Att×Bool:=
 if a.name=name then (p.1++[⟨a.name,value⟩],true)
 else if !Op.bytesLess a.name name&&!p.2 then (p.1++[⟨name,value⟩,a],true)
 else (p.1++[a],p.2)
def qDt (l:List Att) (name value:Txt):List Att×Bool:=l.foldl (attStep name value) ([],false)
def qJj (l:List Att) (name value:Txt):List Att:=if (qDt l name value).2 then (qDt l name value).1 else (qDt l name value).1++[⟨name,value⟩]
def mainT:Txt:=[109,97,105,110]
def qXo:Txt:=[115,108,111,116]
def qQr (d:Dc) (l:List Int):Dc:=l.foldl (fun d k=>qQn d k.toNat {}) d
def qXw (d:Dc) (x:Chg):Int×Int×Dc:=
 if x.node=0||!isM d x.dest true then (8,0,[])
 else if qKz d x.dest x.node then (9,0,[])
 else if x.before=x.node then (8,0,[])
 else
  let r:=putM (qQn (qZf d x.node) x.node.toNat { nd d x.node with up:=x.dest,inS:=false }) x.node x.dest x.before false
  (r.1,x.node,r.2)
def qKe (d:Dc) (x:Chg):Int×Int×Dc:=
 if x.node=0 then (8,0,[]) else (0,x.node,qQr (qZf d x.node) (allM d x.node))
def sayM (d:Dc) (x:Chg):Int×Int×Dc:=
 if !(nd d x.node).tag.isEmpty||60<x.value.length then (8,0,[]) else (0,x.node,qQn d x.node.toNat { nd d x.node with text:=x.value })
def qZw (d:Dc) (x:Chg):Int×Int×Dc:=
 if !name x.name then (7,0,[])
 else if 60<x.value.length then (4,0,[])
 else if 8<(qJj (nd d x.node).attrs x.name x.value).length then (5,0,[])
 else (0,x.node,qQn d x.node.toNat { nd d x.node with attrs:=qJj (nd d x.node).attrs x.name x.value })
def qXt (d:Dc) (x:Chg):Int×Int×Dc:=
 if (qKr d x.node x.name).isNone then (6,0,[])
 else (0,x.node,qQn d x.node.toNat { nd d x.node with attrs:=(nd d x.node).attrs.filter (fun a=>a.name != x.name) })
def qJc (d:Dc) (x:Chg):Int×Int×Dc:=
 if x.node=0||(nd d x.node).hasS||(nd d x.node).tag==qXo then (8,0,[]) else (0,x.node,qQn d x.node.toNat { nd d x.node with hasS:=true })
def isTextK (k:Int):Bool:=k==2||k==10
def qV1 (k:Int):Bool:=k==9||k==10
def qV9 (x:Chg):Nd:=if isTextK x.kind then { text:=x.value } else { tag:=x.name }
def qQo (d:Dc) (x:Chg):Int×Int×Dc:=
 if isTextK x.kind&&decide (60<x.value.length) then (4,0,[])
 else if !isTextK x.kind&&!name x.name then (7,0,[])
 else if qV1 x.kind&&!(nd d x.node).hasS then (8,0,[])
 else qZd d (qV9 x) x.node (if qV1 x.kind then -1 else x.before) (qV1 x.kind)
def qQ4 (d:Dc) (x:Chg):Int×Int×Dc:=
 if x.kind=3 then qXw d x
 else if x.kind=4 then qKe d x
 else if x.kind=7 then sayM d x
 else if (nd d x.node).tag.isEmpty then (8,0,[])
 else if x.kind=5 then qZw d x
 else if x.kind=6 then qXt d x
 else if x.kind=8 then qJc d x
 else qQo d x
def lastF:Dc->Nat->Nat->Nat
 | [],_,a=>a
 | x::d,i,a=>lastF d (i+1) (if x.live&&decide (a<=i) then i+1 else a)
theorem zQb (x:Nd):∀ (d:Dc) (i a:Nat),lastF (d++[x]) i a=if x.live&&decide (lastF d i a<=i+d.length) then i+d.length+1 else lastF d i a:=by
 intro d
 induction d with
 | nil=>intro i a;rfl
 | cons z d ih=>
   intro i a
   simp only [List.cons_append,lastF,ih,List.length_cons]
   rw [show i+1+d.length=i+(d.length+1) by omega]
   rfl
def qK2 (d:Dc):Dc:=d.take (lastF d 0 1)
def qQ1 (d:Dc) (x:Chg):Int×Int×Dc:=
 if x.kind<1||10<x.kind then (1,0,[])
 else if !isM d x.node false then (6,0,[])
 else if (qQ4 d x).1=0 then (0,(qQ4 d x).2.1,qK2 (qQ4 d x).2.2) else ((qQ4 d x).1,0,[])
def rootD:Dc:=[{ live:=true,tag:=mainT,up:=-1 }]
def qZ9 (d:Dc) (x:Chg):Dc:=if (qQ1 d x).1=0 then (qQ1 d x).2.2 else d
def qZq (l:List Chg):Dc:=l.foldl qZ9 rootD
theorem qQ8 {d:Dc} {k:Nat} {x:Nd}:(qQn d k x).length=if k=d.length then d.length+1 else d.length:=by
 unfold qQn;split <;> simp
theorem qXd {d:Dc} {k:Nat} {x:Nd} (hk:k<=d.length) (n:Int):nd (qQn d k x) n=if n.toNat=k then x else nd d n:=by
 unfold nd qQn
 by_cases e:k=d.length
 ·subst e
  simp only [if_true]
  by_cases h:n.toNat=d.length
  ·rw [if_pos h,h,List.getElem?_append_right (Nat.le_refl _)];simp
  ·rw [if_neg h]
   by_cases h2:n.toNat<d.length
   ·rw [List.getElem?_append_left h2]
   ·rw [List.getElem?_eq_none (by simp;omega),List.getElem?_eq_none (by omega)]
 ·rw [if_neg e]
  by_cases h:n.toNat=k
  ·rw [if_pos h,h,List.getElem?_set_self (by omega)];rfl
  ·rw [if_neg h,List.getElem?_set_ne (by omega)]
theorem qQf {d:Dc} {n:Int}:isM d n false=true↔0<=n/\(nd d n).live=true:=by
 unfold isM nd
 constructor
 ·intro h;simp at h;exact ⟨h.1.1,by simpa using h.2⟩
 ·rintro ⟨h1,h2⟩
  have:n.toNat<d.length:=by
   rcases Nat.lt_or_ge n.toNat d.length with h | h
   ·exact h
   ·rw [List.getElem?_eq_none h] at h2;simp at h2
  simp [h1,h2];omega
theorem qZs {d:Dc} {n:Int} (h:isM d n false=true):n.toNat<d.length/\(n.toNat:Int)=n:=by
 simp [isM] at h;omega
theorem qQ0 {d:Dc} {n:Int}:isM d n true=true↔isM d n false=true/\(nd d n).tag≠[]:=by
 simp [isM]
def qQ7 (d:Dc) (n:Int) (sh:Bool):List Int:=listM (nd d n) sh
def Rising:List Att->Prop:=List.Pairwise (fun a b=>Op.bytesLess a.name b.name=true)
structure NdOk (x:Nd):Prop where
 few:∀ sh,(listM x sh).length<=12
 once:∀ sh,(listM x sh).Nodup
 text:x.tag=[]->x.kids=[]/\x.shadow=[]/\x.attrs=[]/\x.hasS=false
 hs:x.hasS=false->x.shadow=[]
 slot:x.tag=qXo->x.hasS=false
 rising:Rising x.attrs
 few8:x.attrs.length<=8
 atts:∀ a∈x.attrs,a.name.length<=20/\a.value.length<=60
 short:x.text.length<=60/\x.tag.length<=20
theorem NdOk.blank:NdOk {}:=by
 refine ⟨?_,?_,?_,?_,?_,?_,?_,?_,?_⟩ <;> simp [listM,Rising]
structure G0 (free:Int->Prop) (R:Nat) (r:Int->Nat) (d:Dc):Prop where
 root:(nd d 0).live=true/\(nd d 0).tag=mainT/\(nd d 0).up = -1/\(nd d 0).hasS=false/\(nd d 0).inS=false
 up:∀ n,isM d n false=true->n≠0->¬ free n->isM d (nd d n).up true=true/\n∈qQ7 d (nd d n).up (nd d n).inS
 kid:∀ n sh k,isM d n false=true->k∈qQ7 d n sh->isM d k false=true/\(nd d k).up=n/\(nd d k).inS=sh/\k≠0/\¬ free k
 ok:∀ n,NdOk (nd d n)
 blank:∀ n,(nd d n).live=false->nd d n={}
 rank:∀ n,isM d n false=true->r n<=R/\(n≠0->¬ free n->r n=r (nd d n).up+1)
 rank0:r 0=0
def qQj:Int->Prop:=fun _=>False
structure Good (d:Dc):Prop where
 len:d.length<=60
 tree:∃ r,G0 qQj 16 r d
 last:d.length=1∨isM d ((d.length:Int) - 1) false=true
inductive Und (d:Dc) (n:Int):Int->Prop
 | here:isM d n false=true->Und d n n
 | step {x:Int}:isM d x false=true->x≠0->Und d n (nd d x).up->Und d n x
theorem Und.is {d:Dc} {n x:Int} (h:Und d n x):isM d x false=true:=by cases h <;> assumption
theorem Und.top {d:Dc} {n x:Int} (h:Und d n x):isM d n false=true:=by induction h with | here h=>exact h | step _ _ _ ih=>exact ih
theorem Und.trans {d:Dc} {a b c:Int} (h:Und d b c) (k:Und d a b):Und d a c:=by
 induction h with
 | here _=>exact k
 | step h1 h2 _ ih=>exact .step h1 h2 ih
theorem Und.down {d:Dc} {n x:Int} (h:Und d n x):x=n∨∃ k,isM d k false=true/\k≠0/\(nd d k).up=n/\Und d k x:=by
 induction h with
 | here _=>exact .inl rfl
 | @step x h1 h2 _ ih=>
   right
   rcases ih with ih | ⟨k,a,b,c,e⟩
   ·exact ⟨x,h1,h2,ih,.here h1⟩
   ·exact ⟨k,a,b,c,.step h1 h2 e⟩
section
variable {d:Dc} {free:Int->Prop} {R:Nat} {r:Int->Nat}
theorem G0.is0 (g:G0 free R r d):isM d 0 false=true:=qQf.2 ⟨by omega,g.root.1⟩
theorem G0.pos (g:G0 free R r d):0<d.length:=by have:=(qZs g.is0).1;omega
theorem G0.upIs (g:G0 free R r d) {n:Int} (h:isM d n false=true) (h0:n≠0) (hf:¬ free n):isM d (nd d n).up false=true:=qQ2 (g.up n h h0 hf).1
theorem Und.le (g:G0 qQj R r d) {n x:Int} (h:Und d n x):r n<=r x:=by
 induction h with
 | here _=>exact Nat.le_refl _
 | step h1 h2 _ ih=>have:=(g.rank _ h1).2 h2 (fun h=>h);omega
theorem Und.root (g:G0 qQj R r d) {x:Int} (h:isM d x false=true):Und d 0 x:=by
 have:∀ m x,isM d x false=true->r x=m->Und d 0 x:=by
  intro m
  induction m with
  | zero=>
    intro x hx hr
    by_cases h0:x=0
    ·subst h0;exact .here hx
    ·have:=(g.rank x hx).2 h0 (fun h=>h);omega
  | succ m ih=>
    intro x hx hr
    by_cases h0:x=0
    ·subst h0;exact .here hx
    ·have h1:=(g.rank x hx).2 h0 (fun h=>h)
     exact .step hx h0 (ih _ (g.upIs hx h0 (fun h=>h)) (by omega))
 exact this _ x h rfl
theorem qBp (g:G0 free R r d):isM d (nd d 0).up false=false:=by rw [g.root.2.2.1];rfl
theorem qFw (g:G0 qQj R r d):∀ f n,isM d n false=true->r n<f->(pathF d f n).length=r n+1:=by
 intro f
 induction f with
 | zero=>intro n _ h;omega
 | succ f ih=>
   intro n h hf
   rw [pathF,if_pos h]
   by_cases h0:n=0
   ·subst h0
    have:pathF d f (nd d 0).up=[]:=by cases f <;> simp [pathF,qBp g]
    rw [this,g.rank0];rfl
   ·have h1:=(g.rank n h).2 h0 (fun h=>h)
    simp only [List.length_cons]
    rw [ih _ (g.upIs h h0 (fun h=>h)) (by omega)];omega
theorem zZ7 (g:G0 qQj R r d):∀ f n x,x∈pathF d f n->r x<=r n:=by
 intro f
 induction f with
 | zero=>intro n x h;simp [pathF] at h
 | succ f ih=>
   intro n x h
   rw [pathF] at h
   split at h
   ·rename_i hi
    rcases List.mem_cons.1 h with rfl | h
    ·exact Nat.le_refl _
    ·by_cases h0:n=0
     ·subst h0
      have:pathF d f (nd d 0).up=[]:=by cases f <;> simp [pathF,qBp g]
      rw [this] at h;simp at h
     ·have h1:=(g.rank n hi).2 h0 (fun h=>h)
      have:=ih _ _ h;omega
   ·simp at h
theorem zQd (g:G0 qQj R r d):∀ f n,(pathF d f n).Nodup:=by
 intro f
 induction f with
 | zero=>intro n;simp [pathF]
 | succ f ih=>
   intro n
   rw [pathF]
   split
   ·rename_i hi
    refine List.nodup_cons.2 ⟨fun h=>?_,ih _⟩
    by_cases h0:n=0
    ·subst h0
     have:pathF d f (nd d 0).up=[]:=by cases f <;> simp [pathF,qBp g]
     rw [this] at h;simp at h
    ·have h1:=(g.rank n hi).2 h0 (fun h=>h)
     have:=zZ7 g _ _ _ h;omega
   ·simp
end
theorem qF7:∀ (N:Nat) (l:List Int),l.Nodup->(∀ x∈l,0<=x/\x<N)->l.length<=N:=by
 intro N
 induction N with
 | zero=>intro l _ h;cases l with | nil=>simp | cons a l=>have:=h a (by simp);omega
 | succ N ih=>
   intro l hn h
   have h1:=ih (l.filter (fun x=>x != (N:Int))) (hn.filter _) (fun x hx=>by
    simp at hx;have:=h x hx.1;omega)
   have h2:l.length<=(l.filter (fun x=>x != (N:Int))).length+1:=by
    clear ih h h1
    induction l with
    | nil=>simp
    | cons a l ihl=>
      have hn':=List.nodup_cons.1 hn
      by_cases ha:a=(N:Int)
      ·have:l.filter (fun x=>x != (N:Int))=l:=List.filter_eq_self.2 (fun x hx=>by
        simp;rintro rfl;exact hn'.1 (ha▸hx))
       simp [ha,this]
      ·have:=ihl hn'.2
       simp [ha];omega
   omega
section
variable {d:Dc} {R:Nat} {r:Int->Nat}
theorem zZq (g:G0 qQj R r d) {n:Int} (h:isM d n false=true):r n<d.length:=by
 have h1:=qFw g (r n+1) n h (by omega)
 have h2:=qF7 d.length _ (zQd g (r n+1) n) (fun x hx=>by have:=qZs (pathF_is hx);omega)
 omega
theorem qB1 (g:G0 qQj R r d) {n:Int} (h:isM d n false=true):(qJ3 d n).length=r n+1:=
 qFw g _ n h (by have:=zZq g h;omega)
theorem mem_path (g:G0 qQj R r d):∀ f n x,isM d n false=true->r n<f->(x∈pathF d f n↔Und d x n):=by
 intro f
 induction f with
 | zero=>intro n x _ h;omega
 | succ f ih=>
   intro n x h hf
   rw [pathF,if_pos h,List.mem_cons]
   by_cases h0:n=0
   ·subst h0
    have:pathF d f (nd d 0).up=[]:=by cases f <;> simp [pathF,qBp g]
    rw [this]
    constructor
    ·rintro (rfl | h');· exact .here h
     ·simp at h'
    ·intro hu
     cases hu with
     | here _=>left;rfl
     | step _ h2 _=>exact absurd rfl h2
   ·have h1:=(g.rank n h).2 h0 (fun h=>h)
    rw [ih _ x (g.upIs h h0 (fun h=>h)) (by omega)]
    constructor
    ·rintro (rfl | h')
     ·exact .here h
     ·exact .step h h0 h'
    ·intro hu
     cases hu with
     | here _=>left;rfl
     | step _ _ h3=>right;exact h3
theorem zQe (g:G0 qQj R r d) {n x:Int} (h:isM d n false=true):qKz d n x=true↔Und d x n:=by
 unfold qKz qJ3
 rw [List.contains_iff_mem]
 exact mem_path g _ n x h (by have:=zZq g h;omega)
theorem qZu (g:G0 qQj R r d) {n k:Int} (h:isM d n false=true):k∈(nd d n).shadow++(nd d n).kids↔isM d k false=true/\k≠0/\(nd d k).up=n:=by
 constructor
 ·intro hk
  rcases List.mem_append.1 hk with hk | hk
  ·have:=g.kid n true k h hk;exact ⟨this.1,this.2.2.2.1,this.2.1⟩
  ·have:=g.kid n false k h hk;exact ⟨this.1,this.2.2.2.1,this.2.1⟩
 ·rintro ⟨h1,h2,rfl⟩
  have:=(g.up k h1 h2 (fun h=>h)).2
  unfold qQ7 listM at this
  split at this
  ·exact List.mem_append_left _ this
  ·exact List.mem_append_right _ this
theorem qHq (g:G0 qQj R r d):∀ f n,isM d n false=true->R<r n+f->qV4 d f n:=by
 intro f
 induction f with
 | zero=>intro n h hf;have:=(g.rank n h).1;omega
 | succ f ih=>
   intro n h hf
   refine ⟨h,fun k hk=>?_⟩
   obtain ⟨h1,h2,h3⟩:=(qZu g h).1 hk
   have:=(g.rank k h1).2 h2 (fun h=>h)
   rw [h3] at this
   exact ih k h1 (by omega)
theorem qBr (g:G0 qQj R r d):∀ f n x,isM d n false=true->R<r n+f->(x∈allF d f n↔Und d n x):=by
 intro f
 induction f with
 | zero=>intro n x h hf;have:=(g.rank n h).1;omega
 | succ f ih=>
   intro n x h hf
   rw [allF,if_pos h,List.mem_cons,List.mem_flatMap]
   constructor
   ·rintro (rfl | ⟨k,hk,hx⟩)
    ·exact .here h
    ·obtain ⟨h1,h2,h3⟩:=(qZu g h).1 hk
     have:=(g.rank k h1).2 h2 (fun h=>h)
     rw [h3] at this
     have hu:=(ih k x h1 (by omega)).1 hx
     refine hu.trans (.step h1 h2 ?_)
     rw [h3];exact .here h
   ·intro hu
    rcases hu.down with rfl | ⟨k,h1,h2,h3,h4⟩
    ·left;rfl
    ·right
     have:=(g.rank k h1).2 h2 (fun h=>h)
     rw [h3] at this
     exact ⟨k,(qZu g h).2 ⟨h1,h2,h3⟩,(ih k x h1 (by omega)).2 h4⟩
theorem qHx (g:G0 qQj R r d):∀ f n x,isM d n false=true->R<r n+f->Und d n x->r x<=r n+qQp d f n:=by
 intro f
 induction f with
 | zero=>intro n x h hf;have:=(g.rank n h).1;omega
 | succ f ih=>
   intro n x h hf hu
   rcases hu.down with rfl | ⟨k,h1,h2,h3,h4⟩
   ·omega
   ·have h5:=(g.rank k h1).2 h2 (fun h=>h)
    rw [h3] at h5
    have h6:=ih k x h1 (by omega) h4
    have h7:1+qQp d f k<=qQp d (f+1) n:=le_maxL (List.mem_map.2 ⟨k,(qZu g h).2 ⟨h1,h2,h3⟩,rfl⟩)
    omega
end
theorem nd_neg {d:Dc} {n:Int} (h:n<0):nd d n=nd d 0:=by
 unfold nd;rw [show n.toNat=(0:Int).toNat by omega]
theorem qJz {d:Dc} {P:Nd->Prop} (h:∀ n,0<=n->P (nd d n)) (n:Int):P (nd d n):=by
 by_cases c:0<=n
 ·exact h n c
 ·rw [nd_neg (by omega)];exact h 0 (by omega)
theorem qBs {d d':Dc} (h:∀ n,0<=n->(nd d' n).live=(nd d n).live) (n:Int):isM d' n false=true↔isM d n false=true:=by
 rw [qQf,qQf]
 constructor
 ·rintro ⟨a,b⟩;exact ⟨a,by rw [<- h n a];exact b⟩
 ·rintro ⟨a,b⟩;exact ⟨a,by rw [h n a];exact b⟩
theorem toNat_inj {a b:Int} (ha:0<=a) (hb:0<=b) (h:a.toNat=b.toNat):a=b:=by omega
section
variable {d d':Dc} {free:Int->Prop} {R:Nat} {r:Int->Nat}
theorem G0.same (g:G0 free R r d) (h:∀ n,0<=n->(nd d' n).live=(nd d n).live/\(nd d' n).up=(nd d n).up/\(nd d' n).inS=(nd d n).inS/\(nd d' n).kids=(nd d n).kids/\(nd d' n).shadow=(nd d n).shadow/\((nd d' n).tag=(nd d n).tag))
 (hroot:(nd d' 0).hasS=false) (hok:∀ n,0<=n->NdOk (nd d' n)) (hb:∀ n,0<=n->(nd d' n).live=false->nd d' n={}):G0 free R r d':=by
 have hi:∀ n,isM d' n false=true↔isM d n false=true:=qBs (fun n hn=>(h n hn).1)
 have hl:∀ n sh,0<=n->qQ7 d' n sh=qQ7 d n sh:=by
  intro n sh hn;unfold qQ7 listM;rw [(h n hn).2.2.2.1,(h n hn).2.2.2.2.1]
 have hie:∀ n,isM d n true=true->isM d' n true=true:=by
  intro n hn
  obtain ⟨a,b⟩:=qQ0.1 hn
  exact qQ0.2 ⟨(hi n).2 a,by rw [(h n (qQf.1 a).1).2.2.2.2.2];exact b⟩
 refine ⟨?_,?_,?_,qJz hok,?_,?_,g.rank0⟩
 ·have h0:=h 0 (by omega)
  rw [h0.1,h0.2.2.2.2.2,h0.2.1,h0.2.2.1]
  exact ⟨g.root.1,g.root.2.1,g.root.2.2.1,hroot,g.root.2.2.2.2⟩
 ·intro n hn h0 hf
  have hn':=(hi n).1 hn
  have hp:=(qQf.1 hn').1
  obtain ⟨a,b⟩:=g.up n hn' h0 hf
  rw [(h n hp).2.1,(h n hp).2.2.1,hl _ _ (qQf.1 (qQ2 a)).1]
  exact ⟨hie _ a,b⟩
 ·intro n sh k hn hk
  have hn':=(hi n).1 hn
  rw [hl _ _ (qQf.1 hn').1] at hk
  obtain ⟨a,b,c,e,f⟩:=g.kid n sh k hn' hk
  have hp:=(qQf.1 a).1
  exact ⟨(hi k).2 a,by rw [(h k hp).2.1];exact b,by rw [(h k hp).2.2.1];exact c,e,f⟩
 ·intro n;exact qJz (P:=fun x=>x.live=false->x={}) hb n
 ·intro n hn
  have hn':=(hi n).1 hn
  rw [(h n (qQf.1 hn').1).2.1]
  exact g.rank n hn'
theorem G0.tweak (g:G0 free R r d) {k:Int} (hk:isM d k false=true) {x:Nd} (hl:x.live=true) (hu:x.up=(nd d k).up) (hs:x.inS=(nd d k).inS) (hkd:x.kids=(nd d k).kids) (hsh:x.shadow=(nd d k).shadow) (ht:x.tag=(nd d k).tag)
 (h0:k=0->x.hasS=false) (hx:NdOk x):G0 free R r (qQn d k.toNat x):=by
 have hlt:=qZs hk
 have hn:=fun n=>qXd (x:=x) (Nat.le_of_lt hlt.1) n
 have hk0:=(qQf.1 hk).1
 refine g.same ?_ ?_ ?_ ?_
 ·intro n hp
  rw [hn n]
  split
  ·rename_i e
   obtain rfl:=toNat_inj hp hk0 e
   exact ⟨by rw [hl,(qQf.1 hk).2],hu,hs,hkd,hsh,ht⟩
  ·exact ⟨rfl,rfl,rfl,rfl,rfl,rfl⟩
 ·rw [hn 0]
  split
  ·rename_i e;exact h0 (toNat_inj (by omega) hk0 e).symm
  ·exact g.root.2.2.2.1
 ·intro n _;rw [hn n];split
  ·exact hx
  ·exact g.ok n
 ·intro n _;rw [hn n];split
  ·intro h;rw [hl] at h;simp at h
  ·exact g.blank n
def cutM (x:Nd) (k:Int):Nd:={ x with kids:=qQk x.kids k,shadow:=qQk x.shadow k }
theorem qYt (x:Nd) (k:Int) (sh:Bool):listM (cutM x k) sh=qQk (listM x sh) k:=by cases sh <;> rfl
theorem cut_ok {x:Nd} (h:NdOk x) (k:Int):NdOk (cutM x k):=by
 refine ⟨fun sh=>?_,fun sh=>?_,fun ht=>?_,fun hs=>?_,h.slot,h.rising,h.few8,h.atts,h.short⟩
 ·rw [qYt];exact Nat.le_trans (List.length_filter_le _ _) (h.few sh)
 ·rw [qYt];exact (h.once sh).filter _
 ·obtain ⟨a,b,c,e⟩:=h.text ht
  exact ⟨by simp [cutM,a,qQk],by simp [cutM,b,qQk],c,e⟩
 ·simp [cutM,h.hs hs,qQk]
theorem qZt {l:List Int} {k x:Int}:x∈qQk l k↔x∈l/\x≠k:=by simp [qQk]
theorem G0.removed (g:G0 qQj R r d) {n:Int} (hn:isM d n false=true) (h0:n≠0) (h1:∀ m,Und d n m->nd d' m={}) (h2:nd d' (nd d n).up=cutM (nd d (nd d n).up) n)
 (h3:∀ m,0<=m->¬ Und d n m->m≠(nd d n).up->nd d' m=nd d m):G0 qQj R r d':=by
 have hpu:isM d (nd d n).up true=true:=(g.up n hn h0 (fun h=>h)).1
 have hpn:¬ Und d n (nd d n).up:=by
  intro h
  have a:=h.le g
  have b:=(g.rank n hn).2 h0 (fun h=>h)
  omega
 have h00:¬ Und d n 0:=by
  intro h
  have a:=h.le g
  have b:=(g.rank n hn).2 h0 (fun h=>h)
  rw [g.rank0] at a
  omega
 have hnd:∀ m,0<=m->¬ Und d n m->nd d' m=if m=(nd d n).up then cutM (nd d m) n else nd d m:=by
  intro m hm hu
  split
  ·rename_i e;subst e;exact h2
  ·rename_i e;exact h3 m hm hu e
 have hi:∀ m,isM d' m false=true↔isM d m false=true/\¬ Und d n m:=by
  intro m
  rw [qQf,qQf]
  by_cases hu:Und d n m
  ·rw [h1 m hu];simp [hu]
  ·by_cases hm:0<=m
   ·rw [hnd m hm hu];split <;> simp [hu,cutM]
   ·simp [hm]
 have hl:∀ m sh,0<=m->¬ Und d n m->qQ7 d' m sh=if m=(nd d n).up then qQk (qQ7 d m sh) n else qQ7 d m sh:=by
  intro m sh hm hu
  unfold qQ7
  rw [hnd m hm hu]
  split
  ·rw [qYt]
  ·rfl
 have hf:∀ m,0<=m->¬ Und d n m->(nd d' m).up=(nd d m).up/\(nd d' m).inS=(nd d m).inS/\(nd d' m).tag=(nd d m).tag/\(nd d' m).live=(nd d m).live/\(nd d' m).hasS=(nd d m).hasS:=by
  intro m hm hu
  rw [hnd m hm hu]
  split <;> exact ⟨rfl,rfl,rfl,rfl,rfl⟩
 refine ⟨?_,?_,?_,?_,?_,?_,g.rank0⟩
 ·obtain ⟨a,b,c,e,f⟩:=hf 0 (by omega) h00
  rw [a,b,c,e,f];exact g.root
 ·intro m hm hm0 _
  obtain ⟨a,b⟩:=(hi m).1 hm
  have hp:=(qQf.1 a).1
  obtain ⟨u1,u2⟩:=g.up m a hm0 (fun h=>h)
  obtain ⟨f1,f2,-⟩:=hf m hp b
  have hq:¬ Und d n (nd d m).up:=fun h=>b (.step a hm0 h)
  have hqp:=(qQf.1 (qQ2 u1)).1
  rw [f1,f2]
  refine ⟨qQ0.2 ⟨(hi _).2 ⟨qQ2 u1,hq⟩,?_⟩,?_⟩
  ·rw [(hf _ hqp hq).2.2.1];exact (qQ0.1 u1).2
  ·rw [hl _ _ hqp hq]
   split
   ·exact qZt.2 ⟨u2,by rintro rfl;exact b (.here a)⟩
   ·exact u2
 ·intro m sh k hm hk
  obtain ⟨a,b⟩:=(hi m).1 hm
  have hp:=(qQf.1 a).1
  rw [hl m sh hp b] at hk
  have hk':k∈qQ7 d m sh/\(m=(nd d n).up->k≠n):=by
   split at hk
   ·exact ⟨(qZt.1 hk).1,fun _=>(qZt.1 hk).2⟩
   ·rename_i e;exact ⟨hk,fun h=>absurd h e⟩
  obtain ⟨c1,c2,c3,c4,-⟩:=g.kid m sh k a hk'.1
  have hku:¬ Und d n k:=by
   intro h
   cases h with
   | here _=>exact hk'.2 c2.symm rfl
   | step _ _ h=>rw [c2] at h;exact b h
  obtain ⟨f1,f2,-⟩:=hf k (qQf.1 c1).1 hku
  exact ⟨(hi k).2 ⟨c1,hku⟩,by rw [f1];exact c2,by rw [f2];exact c3,c4,fun h=>h⟩
 ·refine qJz (fun m hm=>?_)
  by_cases hu:Und d n m
  ·rw [h1 m hu];exact NdOk.blank
  ·rw [hnd m hm hu];split
   ·exact cut_ok (g.ok m) n
   ·exact g.ok m
 ·intro m
  refine qJz (P:=fun x=>x.live=false->x={}) (fun m hm=>?_) m
  by_cases hu:Und d n m
  ·rw [h1 m hu];intro _;rfl
  ·intro h
   rw [(hf m hm hu).2.2.2.1] at h
   rw [hnd m hm hu]
   split
   ·rename_i e;rw [e,(qQf.1 (qQ2 hpu)).2] at h;simp at h
   ·exact g.blank m h
 ·intro m hm
  obtain ⟨a,b⟩:=(hi m).1 hm
  rw [(hf m (qQf.1 a).1 b).1]
  exact g.rank m a
theorem G0.loosed (g:G0 qQj R r d) {n:Int} (hn:isM d n false=true) (h0:n≠0) {x:Nd} (hxl:x.live=true) (hxt:x.tag=(nd d n).tag) (hxk:x.kids=(nd d n).kids) (hxs:x.shadow=(nd d n).shadow) (hxo:NdOk x)
 (h1:nd d' n=x) (h2:nd d' (nd d n).up=cutM (nd d (nd d n).up) n) (h3:∀ m,0<=m->m≠n->m≠(nd d n).up->nd d' m=nd d m):G0 (·=n) R r d'/\∀ z,Und d' n z->Und d n z:=by
 have hpu:isM d (nd d n).up true=true:=(g.up n hn h0 (fun h=>h)).1
 have hn0:=(qQf.1 hn).1
 have hpn:(nd d n).up≠n:=by
  intro h
  have b:=(g.rank n hn).2 h0 (fun h=>h)
  rw [h] at b
  omega
 have hnd:∀ m,0<=m->m≠n->nd d' m=if m=(nd d n).up then cutM (nd d m) n else nd d m:=by
  intro m hm hu
  split
  ·rename_i e;subst e;exact h2
  ·rename_i e;exact h3 m hm hu e
 have hf:∀ m,0<=m->(nd d' m).tag=(nd d m).tag/\(nd d' m).live=(nd d m).live/\(m≠n->(nd d' m).up=(nd d m).up/\(nd d' m).inS=(nd d m).inS/\(nd d' m).hasS=(nd d m).hasS):=by
  intro m hm
  by_cases e:m=n
  ·subst e;rw [h1];exact ⟨hxt,by rw [hxl,(qQf.1 hn).2],fun h=>absurd rfl h⟩
  ·rw [hnd m hm e];split <;> exact ⟨rfl,rfl,fun _=>⟨rfl,rfl,rfl⟩⟩
 have hi:∀ m,isM d' m false=true↔isM d m false=true:=qBs (fun m hm=>(hf m hm).2.1)
 have hl:∀ m sh,0<=m->qQ7 d' m sh=if m=(nd d n).up then qQk (qQ7 d m sh) n else qQ7 d m sh:=by
  intro m sh hm
  unfold qQ7
  by_cases e:m=n
  ·subst e
   rw [h1,if_neg (fun h=>hpn h.symm)]
   unfold listM;rw [hxk,hxs]
  ·rw [hnd m hm e]
   split
   ·rw [qYt]
   ·rfl
 refine ⟨⟨?_,?_,?_,?_,?_,?_,g.rank0⟩,?_⟩
 ·obtain ⟨a,b,c⟩:=hf 0 (by omega)
  obtain ⟨c1,c2,c3⟩:=c (fun h=>h0 h.symm)
  rw [a,b,c1,c2,c3];exact g.root
 ·intro m hm hm0 hmn
  have a:=(hi m).1 hm
  have hp:=(qQf.1 a).1
  obtain ⟨u1,u2⟩:=g.up m a hm0 (fun h=>h)
  obtain ⟨-,-,f⟩:=hf m hp
  obtain ⟨f1,f2,-⟩:=f hmn
  have hqp:=(qQf.1 (qQ2 u1)).1
  rw [f1,f2]
  refine ⟨qQ0.2 ⟨(hi _).2 (qQ2 u1),?_⟩,?_⟩
  ·rw [(hf _ hqp).1];exact (qQ0.1 u1).2
  ·rw [hl _ _ hqp]
   split
   ·exact qZt.2 ⟨u2,hmn⟩
   ·exact u2
 ·intro m sh k hm hk
  have a:=(hi m).1 hm
  have hp:=(qQf.1 a).1
  rw [hl m sh hp] at hk
  have hk':k∈qQ7 d m sh/\(m=(nd d n).up->k≠n):=by
   split at hk
   ·exact ⟨(qZt.1 hk).1,fun _=>(qZt.1 hk).2⟩
   ·rename_i e;exact ⟨hk,fun h=>absurd h e⟩
  obtain ⟨c1,c2,c3,c4,-⟩:=g.kid m sh k a hk'.1
  have hkn:k≠n:=by
   rintro rfl
   exact hk'.2 c2.symm rfl
  obtain ⟨-,-,f⟩:=hf k (qQf.1 c1).1
  obtain ⟨f1,f2,-⟩:=f hkn
  exact ⟨(hi k).2 c1,by rw [f1];exact c2,by rw [f2];exact c3,c4,hkn⟩
 ·refine qJz (fun m hm=>?_)
  by_cases e:m=n
  ·subst e;rw [h1];exact hxo
  ·rw [hnd m hm e];split
   ·exact cut_ok (g.ok m) n
   ·exact g.ok m
 ·intro m
  refine qJz (P:=fun x=>x.live=false->x={}) (fun m hm=>?_) m
  intro h
  rw [(hf m hm).2.1] at h
  by_cases e:m=n
  ·subst e;rw [(qQf.1 hn).2] at h;simp at h
  ·rw [hnd m hm e]
   split
   ·rename_i e;rw [e,(qQf.1 (qQ2 hpu)).2] at h;simp at h
   ·exact g.blank m h
 ·intro m hm
  have a:=(hi m).1 hm
  refine ⟨(g.rank m a).1,fun h1 h2=>?_⟩
  rw [((hf m (qQf.1 a).1).2.2 h2).1]
  exact (g.rank m a).2 h1 (fun h=>h)
 ·intro z hz
  induction hz with
  | here h=>exact .here ((hi _).1 h)
  | @step z a b _ ih=>
    have az:=(hi _).1 a
    by_cases e:z=n
    ·subst e;exact .here az
    ·rw [((hf z (qQf.1 az).1).2.2 e).1] at ih
     exact .step az b ih
theorem G0.born (g:G0 qQj R r d) {n:Int} (hn0:0<=n) (hd:nd d n={}) {x:Nd} (hxl:x.live=true) (hxk:x.kids=[]) (hxs:x.shadow=[]) (hxo:NdOk x) (hxu:isM d x.up false=true)
 (h1:nd d' n=x) (h3:∀ m,0<=m->m≠n->nd d' m=nd d m):G0 (·=n) R (fun z=>if z=n then 0 else r z) d'/\∀ z,Und d' n z->z=n:=by
 have hdead:¬ isM d n false=true:=by rw [qQf,hd];simp
 have h0:n≠0:=by rintro rfl;exact hdead g.is0
 have hi:∀ m,isM d' m false=true↔isM d m false=true∨m=n:=by
  intro m
  rw [qQf,qQf]
  by_cases e:m=n
  ·subst e;rw [h1];simp [hxl,hn0]
  ·by_cases hm:0<=m
   ·rw [h3 m hm e];simp [e]
   ·simp [hm,e]
 have hne:∀ m,isM d m false=true->m≠n:=by rintro m h rfl;exact hdead h
 have hnd:∀ m,isM d m false=true->nd d' m=nd d m:=fun m h=>h3 m (qQf.1 h).1 (hne m h)
 have hup:∀ m,isM d m false=true->m≠0->isM d (nd d m).up false=true:=fun m h h0=>g.upIs h h0 (fun h=>h)
 refine ⟨⟨?_,?_,?_,?_,?_,?_,?_⟩,?_⟩
 ·rw [hnd 0 g.is0];exact g.root
 ·intro m hm hm0 hmn
  have a:=((hi m).1 hm).resolve_right hmn
  obtain ⟨u1,u2⟩:=g.up m a hm0 (fun h=>h)
  rw [hnd m a]
  refine ⟨qQ0.2 ⟨(hi _).2 (.inl (qQ2 u1)),?_⟩,?_⟩
  ·rw [hnd _ (qQ2 u1)];exact (qQ0.1 u1).2
  ·unfold qQ7;rw [hnd _ (qQ2 u1)];exact u2
 ·intro m sh k hm hk
  rcases (hi m).1 hm with a | rfl
  ·unfold qQ7 at hk
   rw [hnd m a] at hk
   obtain ⟨c1,c2,c3,c4,-⟩:=g.kid m sh k a hk
   exact ⟨(hi k).2 (.inl c1),by rw [hnd k c1];exact c2,by rw [hnd k c1];exact c3,c4,hne k c1⟩
  ·unfold qQ7 listM at hk
   rw [h1,hxk,hxs] at hk
   cases sh <;> simp at hk
 ·refine qJz (fun m hm=>?_)
  by_cases e:m=n
  ·subst e;rw [h1];exact hxo
  ·rw [h3 m hm e];exact g.ok m
 ·intro m
  refine qJz (P:=fun x=>x.live=false->x={}) (fun m hm=>?_) m
  by_cases e:m=n
  ·subst e;rw [h1,hxl];simp
  ·rw [h3 m hm e];exact g.blank m
 ·intro m hm
  rcases (hi m).1 hm with a | rfl
  ·have hq:=hne m a
   refine ⟨by simp only [hq,if_false];exact (g.rank m a).1,fun h1 h2=>?_⟩
   rw [hnd m a]
   simp only [hq,hne _ (hup m a h1),if_false]
   exact (g.rank m a).2 h1 (fun h=>h)
  ·exact ⟨by simp,fun _ h=>absurd rfl h⟩
 ·show (if (0:Int)=n then 0 else r 0)=0
  rw [if_neg (fun h=>h0 h.symm)];exact g.rank0
 ·intro z hz
  rcases hz.down with h | ⟨k,a,b,c,-⟩
  ·exact h
  ·exfalso
   rcases (hi k).1 a with a | rfl
   ·rw [hnd k a] at c
    exact hdead (c▸hup k a b)
   ·rw [h1] at c
    exact hdead (c▸hxu)
theorem Und.congr (hi:∀ m,isM d' m false=true↔isM d m false=true) (hu:∀ m,isM d m false=true->(nd d' m).up=(nd d m).up) {n z:Int}:Und d' n z↔Und d n z:=by
 constructor
 ·intro h
  induction h with
  | here h=>exact .here ((hi _).1 h)
  | step a b _ ih=>have a':=(hi _).1 a;rw [hu _ a'] at ih;exact .step a' b ih
 ·intro h
  induction h with
  | here h=>exact .here ((hi _).2 h)
  | step a b _ ih=>refine .step ((hi _).2 a) b ?_;rw [hu _ a];exact ih
theorem qG1 {l:List Int} {a:Nat} {k x:Int}:x∈insM l a k↔x=k∨x∈l:=by
 unfold insM
 have:x∈l↔x∈l.take a∨x∈l.drop a:=by rw [<- List.mem_append,List.take_append_drop]
 simp only [List.mem_append,List.mem_singleton,this]
 constructor
 ·rintro ((h | h) | h)
  ·exact .inr (.inl h)
  ·exact .inl h
  ·exact .inr (.inr h)
 ·rintro (h | h | h)
  ·exact .inl (.inr h)
  ·exact .inl (.inl h)
  ·exact .inr h
theorem zJh {l:List Int} {a:Nat} {k:Int} (h:l.Nodup) (hk:k∉l):(insM l a k).Nodup:=by
 unfold insM
 rw [List.append_assoc,List.singleton_append,List.perm_middle.nodup_iff]
 refine List.nodup_cons.2 ⟨?_,?_⟩
 ·rw [List.take_append_drop];exact hk
 ·rw [List.take_append_drop];exact h
theorem qDz {l:List Int} {a:Nat} {k:Int}:(insM l a k).length=l.length+1:=by
 unfold insM;simp;omega
theorem qJ4 (x:Nd) (sh s:Bool) (l:List Int):listM (qZ0 x sh l) s=if s=sh then l else listM x s:=by
 cases sh <;> cases s <;> rfl
theorem qKd (x:Nd) (sh:Bool) (l:List Int):(qZ0 x sh l).live=x.live/\(qZ0 x sh l).tag=x.tag/\(qZ0 x sh l).text=x.text/\(qZ0 x sh l).attrs=x.attrs/\(qZ0 x sh l).up=x.up/\(qZ0 x sh l).hasS=x.hasS/\(qZ0 x sh l).inS=x.inS:=by
 cases sh <;> exact ⟨rfl,rfl,rfl,rfl,rfl,rfl,rfl⟩
open Classical in
theorem G0.attach {k t:Int} {sh:Bool} {a:Nat} (g:G0 (·=k) R r d) (hk:isM d k false=true) (hk0:k≠0) (hu:(nd d k).up=t) (hs:(nd d k).inS=sh) (ht:isM d t true=true) (hsh:sh=true->(nd d t).hasS=true)
 (hlen:(listM (nd d t) sh).length<12) (hund:¬ Und d k t)
 (h1:nd d' t=qZ0 (nd d t) sh (insM (listM (nd d t) sh) a k)) (h3:∀ m,0<=m->m≠t->nd d' m=nd d m) :
 G0 qQj (2*R+1) (fun z=>if Und d k z then r z - r k+r t+1 else r z) d'/\(∀ m,isM d' m false=true↔isM d m false=true)/\(∀ z,Und d' k z↔Und d k z):=by
 have ht0:=(qQf.1 (qQ2 ht)).1
 have hf:∀ m,0<=m->(nd d' m).live=(nd d m).live/\(nd d' m).tag=(nd d m).tag/\(nd d' m).up=(nd d m).up/\(nd d' m).inS=(nd d m).inS/\(nd d' m).hasS=(nd d m).hasS:=by
  intro m hm
  by_cases e:m=t
  ·subst e
   obtain ⟨a1,a2,a3,a4,a5,a6,a7⟩:=qKd (nd d m) sh (insM (listM (nd d m) sh) a k)
   rw [h1];exact ⟨a1,a2,a5,a7,a6⟩
  ·rw [h3 m hm e];exact ⟨rfl,rfl,rfl,rfl,rfl⟩
 have hi:∀ m,isM d' m false=true↔isM d m false=true:=qBs (fun m hm=>(hf m hm).1)
 have hup:∀ m,isM d m false=true->(nd d' m).up=(nd d m).up:=fun m h=>(hf m (qQf.1 h).1).2.2.1
 have hun:∀ z,Und d' k z↔Und d k z:=fun z=>Und.congr hi hup
 have hl:∀ m s,0<=m->qQ7 d' m s=if m=t/\s=sh then insM (listM (nd d t) sh) a k else qQ7 d m s:=by
  intro m s hm
  unfold qQ7
  by_cases e:m=t
  ·subst e
   rw [h1,qJ4]
   by_cases e2:s=sh
   ·rw [if_pos e2,if_pos ⟨rfl,e2⟩]
   ·rw [if_neg e2,if_neg (fun h=>e2 h.2)]
  ·rw [h3 m hm e,if_neg (fun h=>e h.1)]
 have hkl:∀ m s,isM d m false=true->k∉qQ7 d m s:=fun m s hm h=>(g.kid m s k hm h).2.2.2.2 rfl
 have hle:∀ z,Und d k z->r k<=r z:=by
  intro z hz
  induction hz with
  | here _=>exact Nat.le_refl _
  | @step z a b _ ih=>
    by_cases e:z=k
    ·rw [e];exact Nat.le_refl _
    ·have:=(g.rank z a).2 b e;omega
 refine ⟨⟨?_,?_,?_,?_,?_,?_,?_⟩,hi,hun⟩
 ·obtain ⟨a1,a2,a3,a4,a5⟩:=hf 0 (by omega)
  rw [a1,a2,a3,a4,a5];exact g.root
 ·intro n hn h0 _
  have hn':=(hi n).1 hn
  have hp:=(qQf.1 hn').1
  obtain ⟨-,-,b3,b4,-⟩:=hf n hp
  have hte:∀ q,isM d q true=true->isM d' q true=true:=by
   intro q hq
   obtain ⟨q1,q2⟩:=qQ0.1 hq
   exact qQ0.2 ⟨(hi q).2 q1,by rw [(hf q (qQf.1 q1).1).2.1];exact q2⟩
  rw [b3,b4]
  by_cases e:n=k
  ·subst e
   rw [hu,hs]
   exact ⟨hte _ ht,by rw [hl _ _ ht0,if_pos ⟨rfl,rfl⟩];exact qG1.2 (.inl rfl)⟩
  ·obtain ⟨u1,u2⟩:=g.up n hn' h0 e
   refine ⟨hte _ u1,?_⟩
   rw [hl _ _ (qQf.1 (qQ2 u1)).1]
   split
   ·rename_i h
    rw [h.1,h.2] at u2
    exact qG1.2 (.inr u2)
   ·exact u2
 ·intro n s j hn hj
  have hn':=(hi n).1 hn
  rw [hl n s (qQf.1 hn').1] at hj
  have fin:∀ j,isM d j false=true/\(nd d j).up=n/\(nd d j).inS=s/\j≠0->isM d' j false=true/\(nd d' j).up=n/\(nd d' j).inS=s/\j≠0/\¬ qQj j:=by
   rintro j ⟨c1,c2,c3,c4⟩
   obtain ⟨-,-,b3,b4,-⟩:=hf j (qQf.1 c1).1
   exact ⟨(hi j).2 c1,by rw [b3];exact c2,by rw [b4];exact c3,c4,fun h=>h⟩
  split at hj
  ·rename_i h
   obtain ⟨rfl,rfl⟩:=h
   rcases qG1.1 hj with rfl | hj
   ·exact fin _ ⟨hk,hu,hs,hk0⟩
   ·obtain ⟨c1,c2,c3,c4,-⟩:=g.kid _ _ j hn' hj
    exact fin _ ⟨c1,c2,c3,c4⟩
  ·obtain ⟨c1,c2,c3,c4,-⟩:=g.kid _ _ j hn' hj
   exact fin _ ⟨c1,c2,c3,c4⟩
 ·refine qJz (fun m hm=>?_)
  by_cases e:m=t
  ·subst e
   have ho:=g.ok m
   obtain ⟨a1,a2,a3,a4,a5,a6,a7⟩:=qKd (nd d m) sh (insM (listM (nd d m) sh) a k)
   rw [h1]
   refine ⟨fun s=>?_,fun s=>?_,fun h=>?_,fun h=>?_,by rw [a2,a6];exact ho.slot,by rw [a4];exact ho.rising,by rw [a4];exact ho.few8,by rw [a4];exact ho.atts,by rw [a2,a3];exact ho.short⟩
   ·rw [qJ4];split
    ·rw [qDz];omega
    ·exact ho.few s
   ·rw [qJ4];split
    ·exact zJh (ho.once sh) (hkl m sh (qQ2 ht))
    ·exact ho.once s
   ·rw [a2] at h;exact absurd h (qQ0.1 ht).2
   ·rw [a6] at h
    cases sh with
    | true=>rw [hsh rfl] at h;simp at h
    | false=>exact ho.hs h
  ·rw [h3 m hm e];exact g.ok m
 ·intro m
  refine qJz (P:=fun x=>x.live=false->x={}) (fun m hm=>?_) m
  by_cases e:m=t
  ·subst e;rw [(hf m hm).1,(qQf.1 (qQ2 ht)).2];simp
  ·rw [h3 m hm e];exact g.blank m
 ·intro z hz
  have hz':=(hi z).1 hz
  have rt:=(g.rank t (qQ2 ht)).1
  have rz:=g.rank z hz'
  refine ⟨by split <;> omega,fun h0 _=>?_⟩
  rw [hup z hz']
  by_cases e:z=k
  ·subst e
   rw [if_pos (.here hz'),hu,if_neg hund];omega
  ·have h2:=rz.2 h0 e
   have h3:Und d k z↔Und d k (nd d z).up:=by
    constructor
    ·intro h
     cases h with
     | here _=>exact absurd rfl e
     | step _ _ h=>exact h
    ·exact fun h=>.step hz' h0 h
   by_cases h4:Und d k z
   ·rw [if_pos h4,if_pos (h3.1 h4)]
    have:=hle _ (h3.1 h4)
    omega
   ·rw [if_neg h4,if_neg (fun h=>h4 (h3.2 h))];exact h2
 ·have:¬ Und d k 0:=by
   intro h
   cases h with
   | here _=>exact hk0 rfl
   | step _ h _=>exact h rfl
  rw [if_neg this];exact g.rank0
theorem G0.bound (g:G0 qQj R r d) {k:Int} (hk:isM d k false=true) (hR:R<100) (hc:((qJ3 d k).length:Int) - 1+qKk d k<=16) (hr:∀ x,isM d x false=true->¬ Und d k x->r x<=16):G0 qQj 16 r d:=by
 refine ⟨g.root,g.up,g.kid,g.ok,g.blank,fun x hx=>⟨?_,(g.rank x hx).2⟩,g.rank0⟩
 by_cases h:Und d k x
 ·have h1:=qHx g 100 k x hk (by omega) h
  have h2:=qB1 g hk
  unfold qKk at hc
  omega
 ·exact hr x hx h
end
end Go.Proofs.YtklbmkaomojciaaGreat
namespace Go.Proofs.YtklbmkaomojciaaGreat
open Op (bytesLess)
theorem qFm:∀ a:Txt,bytesLess a a=false:=by
 intro a
 induction a with
 | nil=>rfl
 | cons x a ih=>simp [bytesLess,ih]
theorem qWk:∀ a b c:Txt,bytesLess a b=true->bytesLess b c=true->bytesLess a c=true:=by
 intro a
 induction a with
 | nil=>intro b c h1 h2;cases c with | nil=>cases b <;> simp [bytesLess] at h2 | cons z c=>rfl
 | cons x a ih=>
   intro b c h1 h2
   cases b with
   | nil=>simp [bytesLess] at h1
   | cons y b=>
     cases c with
     | nil=>simp [bytesLess] at h2
     | cons z c=>
       simp only [bytesLess,Bool.or_eq_true,decide_eq_true_eq,Bool.and_eq_true,beq_iff_eq] at *
       rcases h1 with h1 | ⟨rfl,h1⟩
       ·rcases h2 with h2 | ⟨rfl,h2⟩
        ·exact .inl (UInt8.lt_trans h1 h2)
        ·exact .inl h1
       ·rcases h2 with h2 | ⟨rfl,h2⟩
        ·exact .inl h2
        ·exact .inr ⟨rfl,ih _ _ h1 h2⟩
theorem qWh:∀ a b:Txt,bytesLess a b=false->a≠b->bytesLess b a=true:=by
 intro a
 induction a with
 | nil=>intro b h1 h2;cases b with | nil=>exact absurd rfl h2 | cons y b=>simp [bytesLess] at h1
 | cons x a ih=>
   intro b h1 h2
   cases b with
   | nil=>rfl
   | cons y b=>
     simp only [bytesLess,Bool.or_eq_false_iff,decide_eq_false_iff_not,Bool.and_eq_false_imp,beq_iff_eq,Bool.or_eq_true,decide_eq_true_eq,Bool.and_eq_true] at *
     by_cases e:x=y
     ·subst e
      right
      exact ⟨rfl,ih b (h1.2 rfl) (fun h=>h2 (by rw [h]))⟩
     ·left
      have:¬ x<y:=h1.1
      rw [UInt8.lt_iff_toNat_lt] at *
      have:x.toNat≠y.toNat:=fun h=>e (UInt8.toNat_inj.1 h)
      omega
def insA (n v:Txt):List Att->List Att
 | []=>[⟨n,v⟩]
 | a::l=>if a.name=n then ⟨n,v⟩::l else if bytesLess a.name n then a::insA n v l else ⟨n,v⟩::a::l
theorem qHo {n v:Txt}:∀ (l p:List Att),(∀ a∈l,a.name≠n)->l.foldl (attStep n v) (p,true)=(p++l,true):=by
 intro l
 induction l with
 | nil=>intro p _;simp
 | cons a l ih=>
   intro p h
   simp only [List.foldl_cons,attStep]
   rw [if_neg (h a (by simp))]
   simp only [Bool.not_true,Bool.and_false,Bool.false_eq_true,if_false]
   rw [ih _ (fun b hb=>h b (by simp [hb]))]
   simp
theorem qHy {a:Att} {l:List Att} (h:Rising (a::l)):∀ b∈l,bytesLess a.name b.name=true:=(List.pairwise_cons.1 h).1
theorem zZs {n v:Txt}:∀ (l p:List Att),Rising l->(if (l.foldl (attStep n v) (p,false)).2 then (l.foldl (attStep n v) (p,false)).1 else (l.foldl (attStep n v) (p,false)).1++[⟨n,v⟩])=p++insA n v l:=by
 intro l
 induction l with
 | nil=>intro p _;simp [insA]
 | cons a l ih=>
   intro p h
   have hr:=qHy h
   have hl:Rising l:=(List.pairwise_cons.1 h).2
   simp only [List.foldl_cons,attStep,insA]
   by_cases e:a.name=n
   ·have hne:∀ b∈l,b.name≠n:=by
     intro b hb q
     have:=hr b hb
     rw [e,q,qFm] at this
     simp at this
    rw [if_pos e,if_pos e,qHo _ _ hne]
    simp [e]
   ·rw [if_neg e,if_neg e]
    by_cases c:bytesLess a.name n=true
    ·rw [if_pos c]
     simp only [c,Bool.not_true,Bool.false_and,Bool.false_eq_true,if_false]
     rw [ih _ hl];simp
    ·have c':bytesLess a.name n=false:=by simpa using c
     have hn:=qWh _ _ c' e
     have hne:∀ b∈l,b.name≠n:=by
      intro b hb q
      have:=qWk _ _ _ hn (hr b hb)
      rw [q,qFm] at this
      simp at this
     rw [if_neg c]
     simp only [c',Bool.not_false,Bool.true_and,if_true]
     rw [qHo _ _ hne]
     simp
theorem qGz {n v:Txt} {l:List Att} (h:Rising l):qJj l n v=insA n v l:=by
 have:=zZs (n:=n) (v:=v) l [] h
 unfold qJj qDt
 simpa using this
theorem qFy {n v:Txt}:∀ {l:List Att} {b:Att},b∈insA n v l->b=⟨n,v⟩∨b∈l:=by
 intro l
 induction l with
 | nil=>intro b h;simpa [insA] using h
 | cons a l ih=>
   intro b h
   rw [insA] at h
   split at h
   ·rcases List.mem_cons.1 h with h | h
    ·exact .inl h
    ·exact .inr (by simp [h])
   ·split at h
    ·rcases List.mem_cons.1 h with h | h
     ·exact .inr (by simp [h])
     ·rcases ih h with h | h
      ·exact .inl h
      ·exact .inr (by simp [h])
    ·rcases List.mem_cons.1 h with h | h
     ·exact .inl h
     ·exact .inr h
theorem qGn {n v:Txt}:∀ {l:List Att},Rising l->Rising (insA n v l):=by
 intro l
 induction l with
 | nil=>intro _;simp [insA,Rising]
 | cons a l ih=>
   intro h
   have hr:=qHy h
   have hl:Rising l:=(List.pairwise_cons.1 h).2
   rw [insA]
   split
   ·rename_i e
    exact List.pairwise_cons.2 ⟨fun b hb=>by rw [<- e];exact hr b hb,hl⟩
   ·rename_i e
    split
    ·rename_i c
     refine List.pairwise_cons.2 ⟨fun b hb=>?_,ih hl⟩
     rcases qFy hb with rfl | hb
     ·exact c
     ·exact hr b hb
    ·rename_i c
     have hn:=qWh _ _ (by simpa using c) e
     refine List.pairwise_cons.2 ⟨fun b hb=>?_,h⟩
     rcases List.mem_cons.1 hb with rfl | hb
     ·exact hn
     ·exact qWk _ _ _ hn (hr b hb)
end Go.Proofs.YtklbmkaomojciaaGreat
namespace Go.Proofs.YtklbmkaomojciaaGreat
structure PutOk (d:Dc) (k t:Int) (sh:Bool):Prop where
 tree:∃ r,G0 (·=k) 16 r d
 is:isM d k false=true
 ne:k≠0
 up:(nd d k).up=t
 ins:(nd d k).inS=sh
 to:isM d t true=true
 host:sh=true->(nd d t).hasS=true
 und:¬ Und d k t
theorem putAt_le (l:List Int) (b:Int):qJq l b<=l.length:=by
 unfold qJq
 split
 ·rcases zZ4 b l 0 (-1) with h | h <;> omega
 ·exact Int.le_refl _
theorem qYy {d:Dc} {k t before:Int} {sh:Bool} (ht:isM d t true=true):(putD d k t before sh).length=d.length:=by
 have:=qZs (qQ2 ht)
 unfold putD;rw [qQ8,if_neg (by omega)]
theorem PutOk.tree' {d:Dc} {k t before:Int} {sh:Bool} (h:PutOk d k t sh) (hl:(listM (nd d t) sh).length<12) :
 ∃ r,G0 qQj 33 r (putD d k t before sh)/\isM (putD d k t before sh) k false=true/\(∀ z,isM (putD d k t before sh) z false=true->¬ Und (putD d k t before sh) k z->r z<=16):=by
 obtain ⟨r,g⟩:=h.tree
 have hlt:=qZs (qQ2 h.to)
 have h0:=(qQf.1 (qQ2 h.to)).1
 have hn:=fun m=>qXd (x:=qZ0 (nd d t) sh (insM (listM (nd d t) sh) (qJq (listM (nd d t) sh) before).toNat k)) (Nat.le_of_lt hlt.1) m
 obtain ⟨g',hi,hu⟩:=g.attach (d':=putD d k t before sh) h.is h.ne h.up h.ins h.to h.host hl h.und
  (by unfold putD;rw [hn,if_pos rfl]) (fun m hm hne=>by unfold putD;rw [hn,if_neg (fun e=>hne (toNat_inj hm h0 e))])
 refine ⟨_,g',(hi k).2 h.is,fun z hz hz'=>?_⟩
 have:=(g.rank z ((hi z).1 hz)).1
 rw [if_neg (fun e=>hz' ((hu z).2 e))]
 exact this
theorem qDb {d:Dc} {k t before:Int} {sh:Bool} (h:PutOk d k t sh) (he:(putM d k t before sh).1=0):(putM d k t before sh).2=putD d k t before sh/\∃ r,G0 qQj 16 r (putM d k t before sh).2:=by
 unfold putM at he ⊢
 split at he
 ·simp at he
 ·rename_i c1
  rw [if_neg c1]
  split at he
  ·simp at he
  ·rename_i c2
   rw [if_neg c2]
   split at he
   ·simp at he
   ·rename_i c3
    rw [if_neg c3]
    obtain ⟨r,g,hk,hr⟩:=h.tree' (before:=before) (by omega)
    exact ⟨rfl,r,g.bound hk (by omega) (by omega) hr⟩
theorem qBj:∀ (d:Dc) (i a:Nat),a<=lastF d i a:=by
 intro d
 induction d with
 | nil=>intro i a;exact Nat.le_refl _
 | cons x d ih=>
   intro i a
   rw [lastF]
   split
   ·rename_i h;simp at h;exact Nat.le_trans (by omega) (ih _ _)
   ·exact ih _ _
theorem qBm:∀ (d:Dc) (i a:Nat),a<=i+d.length->lastF d i a<=i+d.length:=by
 intro d
 induction d with
 | nil=>intro i a h;simpa [lastF] using h
 | cons x d ih=>
   intro i a h
   rw [lastF]
   simp only [List.length_cons] at *
   refine Nat.le_trans (ih _ _ ?_) (by omega)
   split <;> omega
theorem qDo:∀ (d:Dc) (i a j:Nat) (h:j<d.length),lastF d i a<=i+j->d[j].live=false:=by
 intro d
 induction d with
 | nil=>intro i a j h;simp at h
 | cons x d ih=>
   intro i a j h hj
   rw [lastF] at hj
   cases j with
   | zero=>
     simp only [List.getElem_cons_zero]
     split at hj
     ·have:=qBj d (i+1) (i+1);omega
     ·rename_i c
      have:=qBj d (i+1) a
      simp at c
      cases hx:x.live with
      | false=>rfl
      | true=>have:=c hx;omega
   | succ j=>
     simp only [List.getElem_cons_succ]
     exact ih (i+1) (if x.live&&decide (a<=i) then i+1 else a) j (by simpa using h) (by omega)
theorem qDy:∀ (d:Dc) (i a:Nat),lastF d i a=a∨∃ j,∃ h:j<d.length,d[j].live=true/\lastF d i a=i+j+1:=by
 intro d
 induction d with
 | nil=>intro i a;exact .inl rfl
 | cons x d ih=>
   intro i a
   rw [lastF]
   split
   ·rename_i c
    simp at c
    rcases ih (i+1) (i+1) with h | ⟨j,h,h1,h2⟩
    ·exact .inr ⟨0,by simp,by simpa using c.1,by rw [h]⟩
    ·exact .inr ⟨j+1,by simpa using h,by simpa using h1,by rw [h2];omega⟩
   ·rcases ih (i+1) a with h | ⟨j,h,h1,h2⟩
    ·exact .inl h
    ·exact .inr ⟨j+1,by simpa using h,by simpa using h1,by rw [h2];omega⟩
theorem G0.trim {r:Int->Nat} {R:Nat} {d:Dc} (g:G0 qQj R r d):(∀ n,nd (qK2 d) n=nd d n)/\(qK2 d).length<=d.length/\((qK2 d).length=1∨isM (qK2 d) (((qK2 d).length:Int) - 1) false=true):=by
 have hp:=g.pos
 have hle:=qBm d 0 1 (by omega)
 have hge:=qBj d 0 1
 have hl:(qK2 d).length=lastF d 0 1:=by unfold qK2;rw [List.length_take];omega
 have hn:∀ n,nd (qK2 d) n=nd d n:=by
  intro n
  by_cases h:n.toNat<lastF d 0 1
  ·unfold nd qK2;rw [List.getElem?_take_of_lt h]
  ·have h1:nd (qK2 d) n={}:=by unfold nd;rw [List.getElem?_eq_none (by omega)];rfl
   rw [h1]
   by_cases h2:n.toNat<d.length
   ·refine (g.blank n ?_).symm
    have:=qDo d 0 1 n.toNat h2 (by omega)
    unfold nd;rw [List.getElem?_eq_getElem h2];exact this
   ·unfold nd;rw [List.getElem?_eq_none (by omega)];rfl
 refine ⟨hn,by omega,?_⟩
 rcases qDy d 0 1 with h | ⟨j,h,h1,h2⟩
 ·left;omega
 ·right
  rw [qQf,hn,hl,h2]
  refine ⟨by omega,?_⟩
  unfold nd
  rw [show (((0+j+1:Nat):Int) - 1).toNat=j by omega,List.getElem?_eq_getElem h]
  exact h1
theorem G0.of_nd {free:Int->Prop} {r:Int->Nat} {R:Nat} {d d':Dc} (g:G0 free R r d) (h:∀ n,nd d' n=nd d n):G0 free R r d':=by
 refine g.same (fun n _=>by rw [h n];exact ⟨rfl,rfl,rfl,rfl,rfl,rfl⟩) (by rw [h 0];exact g.root.2.2.2.1) (fun n _=>by rw [h n];exact g.ok n) (fun n _=>by rw [h n];exact g.blank n)
theorem zZ1 {d:Dc} (h:∃ r,G0 qQj 16 r d) (hl:d.length<=60):Good (qK2 d):=by
 obtain ⟨r,g⟩:=h
 obtain ⟨h1,h2,h3⟩:=g.trim
 exact ⟨by omega,⟨r,g.of_nd h1⟩,h3⟩
theorem free_is {d:Dc} {r:Int->Nat} {R:Nat} (g:G0 qQj R r d):qZi d<=d.length/\nd d (qZi d:Int)={}:=by
 have h1:qZi d<=d.length:=List.findIdx_le_length
 refine ⟨h1,?_⟩
 rcases Nat.lt_or_ge (qZi d) d.length with h | h
 ·have:=List.findIdx_getElem (w:=h) (p:=fun x:Nd=>!x.live) (xs:=d)
  refine g.blank _ ?_
  rw [qQv h]
  have e:(!d[qZi d].live)=true:=this
  simpa using e
 ·unfold nd;rw [List.getElem?_eq_none (by omega)];rfl
theorem qVu {d:Dc} {t:Int} {sh:Bool} {x:Nd} (g:∃ r,G0 qQj 16 r d) (ht:isM d t true=true) (hh:sh=true->(nd d t).hasS=true) (hx:NdOk { x with live:=true,up:=t,inS:=sh }) (hxk:x.kids=[]) (hxs:x.shadow=[]) :
 PutOk (qQn d (qZi d) { x with live:=true,up:=t,inS:=sh }) (qZi d) t sh/\listM (nd (qQn d (qZi d) { x with live:=true,up:=t,inS:=sh }) t) sh=listM (nd d t) sh:=by
 obtain ⟨r,g⟩:=g
 obtain ⟨f1,f2⟩:=free_is g
 have hn:=fun m=>qXd (x:={ x with live:=true,up:=t,inS:=sh }) f1 m
 have hk:∀ m:Int,0<=m->m≠(qZi d:Int)->nd (qQn d (qZi d) { x with live:=true,up:=t,inS:=sh }) m=nd d m:=by
  intro m hm hne;rw [hn,if_neg (by omega)]
 have hkk:nd (qQn d (qZi d) { x with live:=true,up:=t,inS:=sh }) (qZi d:Int)={ x with live:=true,up:=t,inS:=sh }:=by rw [hn,if_pos (by omega)]
 have hte:=qQ0.1 ht
 have htp:=(qQf.1 hte.1).1
 have htk:t≠(qZi d:Int):=by
  rintro e
  have:=(qQf.1 hte.1).2
  rw [e,f2] at this;simp at this
 have h0k:(0:Int)≠(qZi d:Int):=by
  intro e
  have:=(qQf.1 g.is0).2
  rw [e,f2] at this;simp at this
 obtain ⟨g',hu⟩:=g.born (d':=qQn d (qZi d) { x with live:=true,up:=t,inS:=sh }) (n:=(qZi d:Int)) (by omega) f2 (x:={ x with live:=true,up:=t,inS:=sh }) rfl hxk hxs hx hte.1 hkk hk
 refine ⟨⟨⟨_,g'⟩,qQf.2 ⟨by omega,by rw [hkk]⟩,fun e=>h0k e.symm,by rw [hkk],by rw [hkk],qQ0.2 ⟨qQf.2 ⟨htp,by rw [hk t htp htk];exact (qQf.1 hte.1).2⟩,by rw [hk t htp htk];exact hte.2⟩,by rw [hk t htp htk];exact hh,fun h=>htk (hu t h)⟩,by rw [hk t htp htk]⟩
theorem qGu {d:Dc} {n:Int} (hp:isM d (nd d n).up false=true) (m:Int) (hm:0<=m):nd (qZf d n) m=if m=(nd d n).up then cutM (nd d (nd d n).up) n else nd d m:=by
 have hlt:=qZs hp
 unfold qZf
 rw [qXd (Nat.le_of_lt hlt.1)]
 by_cases e:m=(nd d n).up
 ·rw [if_pos e,if_pos (by rw [e])];rfl
 ·rw [if_neg e,if_neg (fun h=>e (toNat_inj hm (qQf.1 hp).1 h))]
theorem qJr {d:Dc} {n:Int} (hp:isM d (nd d n).up false=true):(qZf d n).length=d.length:=by
 have hlt:=qZs hp
 unfold qZf
 rw [qQ8,if_neg (by omega)]
theorem zZe {d:Dc} {n t:Int} (g:∃ r,G0 qQj 16 r d) (hn:isM d n false=true) (h0:n≠0) (ht:isM d t true=true) (hw:qKz d t n=false) :
 PutOk (qQn (qZf d n) n.toNat { nd d n with up:=t,inS:=false }) n t false/\(qQn (qZf d n) n.toNat { nd d n with up:=t,inS:=false }).length=d.length:=by
 obtain ⟨r,g⟩:=g
 have hpu:=(g.up n hn h0 (fun h=>h)).1
 have hpi:=qQ2 hpu
 have hlt:=qZs hn
 have hn0:=(qQf.1 hn).1
 have hpn:(nd d n).up≠n:=by
  intro h
  have b:=(g.rank n hn).2 h0 (fun h=>h)
  rw [h] at b
  omega
 have hlen:=qJr hpi
 have hw2:=fun m=>qXd (d:=qZf d n) (x:={ nd d n with up:=t,inS:=false }) (k:=n.toNat) (by omega) m
 have h1:nd (qQn (qZf d n) n.toNat { nd d n with up:=t,inS:=false }) n={ nd d n with up:=t,inS:=false }:=by rw [hw2,if_pos rfl]
 have hoth:∀ m,0<=m->m≠n->nd (qQn (qZf d n) n.toNat { nd d n with up:=t,inS:=false }) m=if m=(nd d n).up then cutM (nd d (nd d n).up) n else nd d m:=by
  intro m hm hne
  rw [hw2,if_neg (fun h=>hne (toNat_inj hm hn0 h)),qGu hpi m hm]
 have hnk:=g.ok n
 obtain ⟨g',hu⟩:=g.loosed (d':=qQn (qZf d n) n.toNat { nd d n with up:=t,inS:=false }) hn h0 (x:={ nd d n with up:=t,inS:=false }) (qQf.1 hn).2 rfl rfl rfl
  ⟨hnk.few,hnk.once,hnk.text,hnk.hs,hnk.slot,hnk.rising,hnk.few8,hnk.atts,hnk.short⟩ h1 (by rw [hoth _ (qQf.1 hpi).1 hpn,if_pos rfl]) (fun m hm h2 h3=>by rw [hoth m hm h2,if_neg h3])
 have hte:=qQ0.1 ht
 have htp:=(qQf.1 hte.1).1
 have hund:¬ Und d n t:=by
  intro h
  have:=(zQe g hte.1).2 h
  rw [hw] at this;simp at this
 have htn:t≠n:=by rintro rfl;exact hund (.here hn)
 have htnd:=hoth t htp htn
 refine ⟨⟨⟨r,g'⟩,qQf.2 ⟨hn0,by rw [h1];exact (qQf.1 hn).2⟩,h0,by rw [h1],by rw [h1],?_,fun h=>by simp at h,fun h=>hund (hu t h)⟩,by rw [qQ8,if_neg (by omega),hlen]⟩
 rw [qQ0,qQf,htnd]
 split
 ·rename_i e;rw [<- e];exact ⟨⟨htp,(qQf.1 hte.1).2⟩,hte.2⟩
 ·exact ⟨⟨htp,(qQf.1 hte.1).2⟩,hte.2⟩
theorem qVc:∀ (l:List Int) (d:Dc),(∀ x∈l,0<=x/\x.toNat<d.length)->(qQr d l).length=d.length/\∀ m,0<=m->nd (qQr d l) m=if m∈l then {} else nd d m:=by
 intro l
 induction l with
 | nil=>intro d _;exact ⟨rfl,fun m _=>by simp [qQr]⟩
 | cons a l ih=>
   intro d h
   have ha:=h a (by simp)
   have hl:(qQn d a.toNat {}).length=d.length:=by rw [qQ8,if_neg (by omega)]
   obtain ⟨h1,h2⟩:=ih (qQn d a.toNat {}) (fun x hx=>by rw [hl];exact h x (by simp [hx]))
   refine ⟨by show (qQr (qQn d a.toNat {}) l).length=_;rw [h1,hl],fun m hm=>?_⟩
   show nd (qQr (qQn d a.toNat {}) l) m=_
   rw [h2 m hm,qXd (by omega)]
   by_cases e:m∈l
   ·rw [if_pos e,if_pos (by simp [e])]
   ·rw [if_neg e]
    by_cases e2:m=a
    ·rw [if_pos (by rw [e2]),if_pos (by simp [e2])]
    ·rw [if_neg (fun h=>e2 (toNat_inj hm ha.1 h)),if_neg (by simp [e,e2])]
theorem qG2 {d:Dc} {n:Int} (g:∃ r,G0 qQj 16 r d) (hn:isM d n false=true) (h0:n≠0):(∃ r,G0 qQj 16 r (qQr (qZf d n) (allM d n)))/\(qQr (qZf d n) (allM d n)).length=d.length:=by
 obtain ⟨r,g⟩:=g
 have hpu:=(g.up n hn h0 (fun h=>h)).1
 have hpi:=qQ2 hpu
 have hlen:=qJr hpi
 have hm:∀ x,x∈allM d n↔Und d n x:=fun x=>qBr g 100 n x hn (by omega)
 obtain ⟨b1,b2⟩:=qVc (allM d n) (qZf d n) (fun x hx=>by have:=qZs ((hm x).1 hx).is;omega)
 have hpn:¬ Und d n (nd d n).up:=by
  intro h
  have a:=h.le g
  have b:=(g.rank n hn).2 h0 (fun h=>h)
  omega
 refine ⟨⟨r,g.removed hn h0 (fun m hu=>?_) ?_ (fun m hm0 hu hne=>?_)⟩,by rw [b1,hlen]⟩
 ·rw [b2 m (qQf.1 hu.is).1,if_pos ((hm m).2 hu)]
 ·rw [b2 _ (qQf.1 hpi).1,if_neg (fun h=>hpn ((hm _).1 h)),qGu hpi _ (qQf.1 hpi).1,if_pos rfl]
 ·rw [b2 m hm0,if_neg (fun h=>hu ((hm _).1 h)),qGu hpi m hm0,if_neg hne]
theorem qDa {s:Txt} (h:name s=true):s≠[]/\s.length<=20:=by
 simp [name] at h
 exact ⟨by rintro rfl;simp at h,h.1.2⟩
theorem qXv {x:Chg} {t:Int} {sh:Bool} (h1:isTextK x.kind=true->x.value.length<=60) (h2:isTextK x.kind=false->name x.name=true):NdOk { qV9 x with live:=true,up:=t,inS:=sh }/\(qV9 x).kids=[]/\(qV9 x).shadow=[]:=by
 unfold qV9
 split
 ·rename_i c
  refine ⟨⟨?_,?_,?_,?_,?_,?_,?_,?_,?_⟩,rfl,rfl⟩ <;> simp [listM,Rising,qXo]
  exact h1 c
 ·rename_i c
  have:=qDa (h2 (by simpa using c))
  refine ⟨⟨?_,?_,?_,?_,?_,?_,?_,?_,?_⟩,rfl,rfl⟩ <;> simp [listM,Rising,qXo]
  exact this.2
theorem qXc {d:Dc} {x:Chg} (g:Good d) (hn:isM d x.node false=true) (he:(qQ4 d x).1=0):(∃ r,G0 qQj 16 r (qQ4 d x).2.2)/\(qQ4 d x).2.2.length<=60:=by
 have gt:=g.tree
 have hlen:=g.len
 have hlt:=qZs hn
 have hsame:∀ y,(qQn d x.node.toNat y).length=d.length:=fun y=>by rw [qQ8,if_neg (by omega)]
 unfold qQ4 at he ⊢
 split at he
 ·rename_i c;rw [if_pos c]
  unfold qXw at he ⊢
  split at he
  ·simp at he
  ·rename_i c1;rw [if_neg c1]
   simp at c1
   split at he
   ·simp at he
   ·rename_i c2;rw [if_neg c2]
    split at he
    ·simp at he
    ·rename_i c3;rw [if_neg c3]
     obtain ⟨ok,hl⟩:=zZe (t:=x.dest) gt hn c1.1 c1.2 (by simpa using c2)
     obtain ⟨h1,h2⟩:=qDb ok he
     refine ⟨h2,?_⟩
     dsimp only
     rw [h1,qYy ok.to,hl];exact hlen
 ·rename_i c;rw [if_neg c]
  split at he
  ·rename_i c4;rw [if_pos c4]
   unfold qKe at he ⊢
   split at he
   ·simp at he
   ·rename_i c1;rw [if_neg c1]
    obtain ⟨h1,h2⟩:=qG2 gt hn c1
    exact ⟨h1,by dsimp only;omega⟩
  ·rename_i c4;rw [if_neg c4]
   split at he
   ·rename_i c7;rw [if_pos c7]
    unfold sayM at he ⊢
    split at he
    ·simp at he
    ·rename_i c1;rw [if_neg c1]
     simp at c1
     obtain ⟨r,g0⟩:=gt
     have ho:=g0.ok x.node
     refine ⟨⟨r,g0.tweak hn (qQf.1 hn).2 rfl rfl rfl rfl rfl (fun h=>?_) ⟨ho.few,ho.once,ho.text,ho.hs,ho.slot,ho.rising,ho.few8,ho.atts,c1.2,ho.short.2⟩⟩,by dsimp only;rw [hsame];exact hlen⟩
     have:=g0.root.2.1
     rw [<- h,c1.1] at this;simp [mainT] at this
   ·rename_i c7;rw [if_neg c7]
    split at he
    ·simp at he
    ·rename_i ct;rw [if_neg ct]
     have htag:(nd d x.node).tag≠[]:=by simpa using ct
     have hel:isM d x.node true=true:=qQ0.2 ⟨hn,htag⟩
     split at he
     ·rename_i c5;rw [if_pos c5]
      unfold qZw at he ⊢
      split at he
      ·simp at he
      ·rename_i c1;rw [if_neg c1]
       split at he
       ·simp at he
       ·rename_i c2;rw [if_neg c2]
        split at he
        ·simp at he
        ·rename_i c3;rw [if_neg c3]
         obtain ⟨r,g0⟩:=gt
         have ho:=g0.ok x.node
         refine ⟨⟨r,g0.tweak hn (qQf.1 hn).2 rfl rfl rfl rfl rfl (fun h=>by rw [h];exact g0.root.2.2.2.1) ⟨ho.few,ho.once,fun h=>absurd h htag,ho.hs,ho.slot,?_,by dsimp only;omega,?_,ho.short⟩⟩,by dsimp only;rw [hsame];exact hlen⟩
         ·dsimp only;rw [qGz ho.rising];exact qGn ho.rising
         ·dsimp only;rw [qGz ho.rising]
          intro a ha
          rcases qFy ha with rfl | ha
          ·exact ⟨(qDa (by simpa using c1)).2,by simpa using c2⟩
          ·exact ho.atts a ha
     ·rename_i c5;rw [if_neg c5]
      split at he
      ·rename_i c6;rw [if_pos c6]
       unfold qXt at he ⊢
       split at he
       ·simp at he
       ·rename_i c1;rw [if_neg c1]
        obtain ⟨r,g0⟩:=gt
        have ho:=g0.ok x.node
        refine ⟨⟨r,g0.tweak hn (qQf.1 hn).2 rfl rfl rfl rfl rfl (fun h=>by rw [h];exact g0.root.2.2.2.1) ⟨ho.few,ho.once,fun h=>absurd h htag,ho.hs,ho.slot,?_,?_,?_,ho.short⟩⟩,by dsimp only;rw [hsame];exact hlen⟩
        ·exact List.Pairwise.filter _ ho.rising
        ·exact Nat.le_trans (List.length_filter_le _ _) ho.few8
        ·intro a ha;exact ho.atts a (List.mem_filter.1 ha).1
      ·rename_i c6;rw [if_neg c6]
       split at he
       ·rename_i c8;rw [if_pos c8]
        unfold qJc at he ⊢
        split at he
        ·simp at he
        ·rename_i c1;rw [if_neg c1]
         simp at c1
         obtain ⟨r,g0⟩:=gt
         have ho:=g0.ok x.node
         refine ⟨⟨r,g0.tweak hn (qQf.1 hn).2 rfl rfl rfl rfl rfl (fun h=>absurd h c1.1.1) ⟨ho.few,ho.once,fun h=>absurd h htag,fun h=>by simp at h,fun h=>absurd h c1.2,ho.rising,ho.few8,ho.atts,ho.short⟩⟩,by dsimp only;rw [hsame];exact hlen⟩
       ·rename_i c8;rw [if_neg c8]
        unfold qQo at he ⊢
        split at he
        ·simp at he
        ·rename_i c1;rw [if_neg c1]
         split at he
         ·simp at he
         ·rename_i c2;rw [if_neg c2]
          split at he
          ·simp at he
          ·rename_i c3;rw [if_neg c3]
           unfold qZd at he ⊢
           split at he
           ·simp at he
           ·rename_i c4;rw [if_neg c4]
            simp at c1 c2 c3
            obtain ⟨n1,n2,n3⟩:=qXv (x:=x) (t:=x.node) (sh:=qV1 x.kind) (fun h=>c1 h) (fun h=>c2 h)
            obtain ⟨ok,-⟩:=qVu gt hel (fun h=>c3 h) n1 n2 n3
            obtain ⟨h1,h2⟩:=qDb ok he
            refine ⟨h2,?_⟩
            dsimp only
            rw [h1,qYy ok.to,qQ8]
            split <;> omega
theorem qWv {d:Dc} {x:Chg} (g:Good d) (he:(qQ1 d x).1=0):Good (qQ1 d x).2.2:=by
 unfold qQ1 at he ⊢
 split at he
 ·simp at he
 ·rename_i c1;rw [if_neg c1]
  split at he
  ·simp at he
  ·rename_i c2;rw [if_neg c2]
   split at he
   ·rename_i c3;rw [if_pos c3]
    obtain ⟨h1,h2⟩:=qXc g (by simpa using c2) c3
    exact zZ1 h1 h2
   ·rename_i c3;exact absurd he c3
theorem zJn:Good rootD:=by
 have hn:∀ n:Int,0<=n->nd rootD n=if n=0 then { live:=true,tag:=mainT,up:=-1 } else {}:=by
  intro n h
  unfold nd rootD
  split
  ·rename_i e;subst e;rfl
  ·rw [List.getElem?_eq_none (by simp;omega)];rfl
 refine ⟨by decide,⟨fun _=>0,?_,?_,?_,?_,?_,?_,rfl⟩,.inl rfl⟩
 ·rw [hn 0 (by omega)];exact ⟨rfl,rfl,rfl,rfl,rfl⟩
 ·intro n h h0 _
  have:=qQf.1 h
  rw [hn n this.1,if_neg h0] at this;simp at this
 ·intro n sh k h hk
  have:=qQf.1 h
  unfold qQ7 listM at hk
  rw [hn n this.1] at hk
  split at hk <;> split at hk <;> simp at hk
 ·refine qJz (fun n h=>?_)
  rw [hn n h];split
  ·refine ⟨?_,?_,?_,?_,?_,?_,?_,?_,?_⟩ <;> simp [listM,Rising,mainT,qXo]
  ·exact NdOk.blank
 ·intro n
  refine qJz (P:=fun x=>x.live=false->x={}) (fun n h=>?_) n
  rw [hn n h];split
  ·intro h;simp at h
  ·intro _;rfl
 ·intro n h
  have:=qQf.1 h
  refine ⟨by omega,fun h0 _=>?_⟩
  rw [hn n this.1,if_neg h0] at this;simp at this
theorem qWx (l:List Chg):Good (qZq l):=by
 have:∀ (l:List Chg) (d:Dc),Good d->Good (l.foldl qZ9 d):=by
  intro l
  induction l with
  | nil=>intro d h;exact h
  | cons x l ih=>
    intro d h
    refine ih _ ?_
    unfold qZ9
    split
    ·rename_i e;exact qWv h e
    ·exact h
 exact this l _ zJn
def preF (kids:Int->List Int):Nat->Int->List Int
 | 0,_=>[]
 | f+1,n=>n::(kids n).flatMap (preF kids f)
structure Falls (kids:Int->List Int) (μ:Int->Nat) (N:Nat):Prop where
 down:∀ n k,k∈kids n->μ n<μ k
 top:∀ n,μ n<=N
inductive Reach (kids:Int->List Int) (n:Int):Int->Prop
 | here:Reach kids n n
 | step {x y:Int}:Reach kids n x->y∈kids x->Reach kids n y
section
variable {kids:Int->List Int} {μ:Int->Nat} {N:Nat}
theorem Reach.trans {a b c:Int} (h:Reach kids b c) (k:Reach kids a b):Reach kids a c:=by
 induction h with
 | here=>exact k
 | step _ h ih=>exact .step ih h
theorem Reach.first {a c:Int} (h:Reach kids a c):c=a∨∃ b∈kids a,Reach kids b c:=by
 induction h with
 | here=>exact .inl rfl
 | @step x y h hy ih=>
   right
   rcases ih with rfl | ⟨b,hb,h2⟩
   ·exact ⟨y,hy,.here⟩
   ·exact ⟨b,hb,.step h2 hy⟩
theorem Reach.le (F:Falls kids μ N) {a c:Int} (h:Reach kids a c):μ a<=μ c:=by
 induction h with
 | here=>exact Nat.le_refl _
 | step _ h ih=>exact Nat.le_trans ih (Nat.le_of_lt (F.down _ _ h))
theorem zJe (F:Falls kids μ N):∀ f n x,N<μ n+f->(x∈preF kids f n↔Reach kids n x):=by
 intro f
 induction f with
 | zero=>intro n x h;have:=F.top n;omega
 | succ f ih=>
   intro n x h
   rw [preF,List.mem_cons,List.mem_flatMap]
   constructor
   ·rintro (rfl | ⟨k,hk,hx⟩)
    ·exact .here
    ·have:=F.down n k hk
     exact ((ih k x (by omega)).1 hx).trans (.step .here hk)
   ·intro hr
    rcases hr.first with rfl | ⟨k,hk,hx⟩
    ·left;rfl
    ·right
     have:=F.down n k hk
     exact ⟨k,hk,(ih k x (by omega)).2 hx⟩
structure Alone (kids:Int->List Int) (par:Int->Int):Prop where
 par:∀ n k,k∈kids n->par k=n
 once:∀ n,(kids n).Nodup
theorem zQh {par:Int->Int} (A:Alone kids par) {a b x:Int} (ha:Reach kids a x) (hb:Reach kids b x):Reach kids a b∨Reach kids b a:=by
 induction ha with
 | here=>exact .inr hb
 | @step p y h hy ih=>
   cases hb with
   | here=>exact .inl (.step h hy)
   | @step q _ h2 hy2=>
     obtain rfl:p=q:=(A.par _ _ hy).symm.trans (A.par _ _ hy2)
     exact ih h2
theorem qHw {par:Int->Int} (F:Falls kids μ N) (A:Alone kids par):∀ f n,N<μ n+f->(preF kids f n).Nodup:=by
 intro f
 induction f with
 | zero=>intro n h;have:=F.top n;omega
 | succ f ih=>
   intro n h
   rw [preF]
   have hm:∀ k∈kids n,∀ x,x∈preF kids f k↔Reach kids k x:=fun k hk x=>zJe F f k x (by have:=F.down n k hk;omega)
   refine List.nodup_cons.2 ⟨fun hx=>?_,?_⟩
   ·obtain ⟨k,hk,hx⟩:=List.mem_flatMap.1 hx
    have h1:=((hm k hk n).1 hx).le F
    have h2:=F.down n k hk
    omega
   ·have:∀ L:List Int,L.Nodup->(∀ k∈L,k∈kids n)->(L.flatMap (preF kids f)).Nodup:=by
     intro L
     induction L with
     | nil=>intro _ _;simp
     | cons a L ihL=>
       intro hn hL
       obtain ⟨hn1,hn2⟩:=List.nodup_cons.1 hn
       have ha:=hL a (by simp)
       rw [List.flatMap_cons]
       refine List.nodup_append.2 ⟨ih a (by have:=F.down n a ha;omega),ihL hn2 (fun k hk=>hL k (by simp [hk])),?_⟩
       intro x hx y hy e
       subst e
       obtain ⟨b,hb,hxb⟩:=List.mem_flatMap.1 hy
       have hb':=hL b (by simp [hb])
       have ra:=(hm a ha x).1 hx
       have rb:=(hm b hb' x).1 hxb
       have nab:a≠b:=by rintro rfl;exact hn1 hb
       have key:∀ a b,a∈kids n->b∈kids n->a≠b->¬ Reach kids a b:=by
        intro a b ha hb hne hr
        cases hr with
        | here=>exact hne rfl
        | @step p _ h2 hy2=>
          obtain rfl:p=n:=(A.par _ _ hy2).symm.trans (A.par _ _ hb)
          have h3:=h2.le F
          have h4:=F.down _ _ ha
          omega
       rcases zQh A ra rb with h | h
       ·exact key a b ha hb' nab h
       ·exact key b a hb' ha (fun e=>nab e.symm) h
    exact this _ (A.once n) (fun k h=>h)
end
def qBi (d:Dc) (n:Int):List Int:=if isM d n false then (nd d n).shadow++(nd d n).kids else []
section
variable {d:Dc} {r:Int->Nat}
theorem qGk (g:G0 qQj 16 r d):Falls (qBi d) (fun n=>if isM d n false then r n else 0) 16:=by
 refine ⟨fun n k hk=>?_,fun n=>?_⟩
 ·unfold qBi at hk
  split at hk
  ·rename_i h
   obtain ⟨h1,h2,h3⟩:=(qZu g h).1 hk
   have:=(g.rank k h1).2 h2 (fun h=>h)
   rw [if_pos h,if_pos h1]
   rw [h3] at this;omega
  ·simp at hk
 ·split
  ·rename_i h;exact (g.rank n h).1
  ·exact Nat.zero_le _
theorem qG7 (g:G0 qQj 16 r d):Alone (qBi d) (fun k=>(nd d k).up):=by
 refine ⟨fun n k hk=>?_,fun n=>?_⟩
 ·unfold qBi at hk
  split at hk
  ·rename_i h;exact ((qZu g h).1 hk).2.2
  ·simp at hk
 ·unfold qBi
  split
  ·rename_i h
   refine List.nodup_append.2 ⟨(g.ok n).once true,(g.ok n).once false,?_⟩
   intro a ha b hb e
   subst e
   have h1:=(g.kid n true a h ha).2.2.1
   have h2:=(g.kid n false a h hb).2.2.1
   rw [h1] at h2;simp at h2
  ·simp
theorem all_pre (g:G0 qQj 16 r d):∀ f n,isM d n false=true->allF d f n=preF (qBi d) f n:=by
 intro f
 induction f with
 | zero=>intro n _;rfl
 | succ f ih=>
   intro n hn
   rw [preF,allF,if_pos hn]
   have e:qBi d n=(nd d n).shadow++(nd d n).kids:=by unfold qBi;rw [if_pos hn]
   rw [e]
   congr 1
   have:∀ L:List Int,(∀ k∈L,isM d k false=true)->L.flatMap (allF d f)=L.flatMap (preF (qBi d) f):=by
    intro L
    induction L with
    | nil=>intro _;rfl
    | cons a L ihL=>
      intro hL
      simp only [List.flatMap_cons]
      rw [ih a (hL a (by simp)),ihL (fun k hk=>hL k (by simp [hk]))]
   exact this _ (fun k hk=>((qZu g hn).1 hk).1)
theorem zQg (g:G0 qQj 16 r d) {n:Int} (h:isM d n false=true):(allM d n).Nodup:=by
 unfold allM
 rw [all_pre g 100 n h]
 exact qHw (qGk g) (qG7 g) 100 n (by omega)
theorem zQm (g:G0 qQj 16 r d) {n x:Int} (h:isM d n false=true) (hx:x∈allM d n):isM d x false=true:=((qBr g 100 n x h (by omega)).1 hx).is
theorem qFg (g:G0 qQj 16 r d) {n:Int} (h:isM d n false=true):(allM d n).length<=d.length:=
 qF7 _ _ (zQg g h) (fun x hx=>by have:=qZs (zQm g h hx);omega)
end
theorem qW0 {d:Dc} (g:Good d) {n:Int} (h:isM d n false=true) (h0:n≠0):isM d (nd d n).up false=true:=by
 obtain ⟨r,g⟩:=g.tree
 exact g.upIs h h0 (fun h=>h)
theorem qXn {d:Dc} (g:Good d) (n:Int):(nd d n).kids.length<=12/\(nd d n).shadow.length<=12/\(nd d n).attrs.length<=8:=by
 obtain ⟨r,g⟩:=g.tree
 exact ⟨(g.ok n).few false,(g.ok n).few true,(g.ok n).few8⟩
theorem zQv {d:Dc} (l:List Int) (h:∀ x∈l,0<=x/\x.toNat<d.length):(qQr d l).length=d.length:=(qVc l d h).1
theorem qDh (d:Dc) (l:List Int) (k:Int):qQr d (l++[k])=qQn (qQr d l) k.toNat {}:=by unfold qQr;rw [List.foldl_append];rfl
theorem Falls.tight {kids:Int->List Int} {μ:Int->Nat} {N:Nat} (F:Falls kids μ N) (L:Nat) (hin:∀ n k,k∈kids n->0<=n/\n<L):∃ μ',Falls kids μ' L:=by
 refine ⟨fun n=>((List.range L).filter (fun x:Nat=>decide (μ (x:Int)<μ n))).length,fun n k hk=>?_,fun n=>?_⟩
 ·have h1:=F.down n k hk
  have h2:=hin n k hk
  have hsub:∀ l:List Nat,(l.filter (fun x:Nat=>decide (μ (x:Int)<μ n))).length<=(l.filter (fun x:Nat=>decide (μ (x:Int)<μ k))).length:=by
   intro l
   induction l with
   | nil=>simp
   | cons a l ih=>
     simp only [List.filter_cons,decide_eq_true_eq]
     split
     ·rw [if_pos (by omega)];simp;exact ih
     ·split
      ·simp;omega
      ·exact ih
  obtain ⟨l1,l2,e⟩:=List.append_of_mem (List.mem_range.2 (show n.toNat<L by omega))
  rw [e]
  simp only [List.filter_append,List.filter_cons,List.length_append,decide_eq_true_eq]
  rw [if_neg (by rw [show ((n.toNat:Nat):Int)=n by omega];omega),if_pos (by rw [show ((n.toNat:Nat):Int)=n by omega];exact h1)]
  have a1:=hsub l1
  have a2:=hsub l2
  simp only [List.length_cons]
  omega
 ·exact Nat.le_trans (List.length_filter_le _ _) (by simp)
def nameT:Txt:=[110,97,109,101]
def said (d:Dc) (n:Int) (s:Txt):Txt:=(qKr d n s).getD []
def qVf (d:Dc) (host:Int) (want:Txt) (k:Int):Bool:=decide ((nd d k).tag=qXo)&&decide (qXi d k=host)&&decide (said d k nameT=want)
def slotR (d:Dc) (n:Int):Int:=
 if !isM d n false||(nd d n).inS||decide ((nd d n).up<0) then -1
 else if !(nd d (nd d n).up).hasS then -1
 else (((nd d (nd d n).up).shadow.flatMap (allM d)).find? (qVf d (nd d n).up (said d n qXo))).getD (-1)
def qYj (d:Dc) (s:Int):Bool:=isM d s true&&decide ((nd d s).tag=qXo)
def givenR (d:Dc) (s:Int):List Int:=
 if qYj d s then (nd d (qXi d s)).kids.filter (fun k=>decide (slotR d k=s)) else []
def kidsR (d:Dc) (n:Int):List Int:=
 if !isM d n false then [] else if (nd d n).hasS then (nd d n).shadow else if (givenR d n).isEmpty then (nd d n).kids else givenR d n
def upR (d:Dc) (n:Int):Int:=(((List.range d.length).find? (fun k:Nat=>(kidsR d (k:Int)).contains n)).map (fun k=>(k:Int))).getD (-1)
def shownR (d:Dc):List Int:=preF (kidsR d) 100 0
section
variable {d:Dc} {r:Int->Nat}
theorem qXy (g:G0 qQj 16 r d) {n s:Int} (h:slotR d n=s) (hs:0<=s):isM d n false=true/\n≠0/\(nd d n).inS=false/\(nd d (nd d n).up).hasS=true/\qYj d s=true/\qXi d s=(nd d n).up/\(nd d n).up≠0/\∃ c∈(nd d (nd d n).up).shadow,Und d c s:=by
 unfold slotR at h
 split at h
 ·omega
 ·rename_i c1
  simp at c1
  split at h
  ·omega
  ·rename_i c2
   simp at c2
   have hn0:n≠0:=by
    rintro rfl
    have:=g.root.2.2.1
    omega
   have hup:=g.upIs c1.1.1 hn0 (fun h=>h)
   cases hf:((nd d (nd d n).up).shadow.flatMap (allM d)).find? (qVf d (nd d n).up (said d n qXo)) with
   | none=>rw [hf] at h;simp at h;omega
   | some k=>
     rw [hf] at h
     simp at h
     subst h
     have h1:=List.find?_some hf
     have h2:=List.mem_of_find?_eq_some hf
     unfold qVf at h1
     simp at h1
     obtain ⟨c,hc,hk⟩:=List.mem_flatMap.1 h2
     have hci:=(g.kid _ true c hup hc).1
     have hu:=(qBr g 100 c k hci (by omega)).1 hk
     refine ⟨c1.1.1,hn0,c1.1.2,c2,?_,h1.1.2,?_,c,hc,hu⟩
     ·unfold qYj
      simp only [Bool.and_eq_true,decide_eq_true_eq]
      exact ⟨qQ0.2 ⟨hu.is,by rw [h1.1.1];decide⟩,h1.1.1⟩
     ·intro e
      have:=g.root.2.2.2.1
      rw [<- e,c2] at this;simp at this
end
def upP (d:Dc) (n:Int):Int:=
 if !isM d n false||decide ((nd d n).up<0) then -1
 else if (nd d n).inS then (nd d n).up
 else if (nd d (nd d n).up).hasS then slotR d n
 else if decide ((nd d (nd d n).up).tag=qXo)&&!(givenR d (nd d n).up).isEmpty then -1
 else (nd d n).up
section
variable {d:Dc} {r:Int->Nat}
theorem qH0 {s k:Int}:k∈givenR d s↔qYj d s=true/\k∈(nd d (qXi d s)).kids/\slotR d k=s:=by
 unfold givenR
 split
 ·rename_i h;simp [h]
 ·rename_i h;simp [h]
theorem qVn {s:Int} (h:qYj d s=true):isM d s false=true/\(nd d s).tag=qXo:=by
 unfold qYj at h;simp only [Bool.and_eq_true,decide_eq_true_eq] at h
 exact ⟨qQ2 h.1,h.2⟩
theorem qZ7 (g:G0 qQj 16 r d) {n k:Int}:k∈kidsR d n↔isM d n false=true/\upP d k=n:=by
 constructor
 ·intro h
  unfold kidsR at h
  split at h
  ·simp at h
  ·rename_i hn
   have hn:isM d n false=true:=by simpa using hn
   have hn0:=(qQf.1 hn).1
   refine ⟨hn,?_⟩
   split at h
   ·rename_i hs
    obtain ⟨a,b,c,e,-⟩:=g.kid n true k hn h
    unfold upP
    rw [if_neg (by simp [a,b];omega),if_pos c,b]
   ·rename_i hs
    split at h
    ·rename_i hg
     obtain ⟨a,b,c,e,-⟩:=g.kid n false k hn h
     unfold upP
     rw [if_neg (by simp [a,b];omega),if_neg (by simp [c]),b,if_neg hs,if_neg (by simp [hg])]
    ·obtain ⟨a,b,c⟩:=qH0.1 h
     obtain ⟨s1,s2,s3,s4,s5,s6,s7,-⟩:=qXy g c hn0
     have hup:=g.upIs s1 s2 (fun h=>h)
     have:=(qQf.1 hup).1
     unfold upP
     rw [if_neg (by simp [s1];omega),if_neg (by simp [s3]),if_pos s4,c]
 ·rintro ⟨hn,h⟩
  have hn0:=(qQf.1 hn).1
  unfold upP at h
  split at h
  ·omega
  ·rename_i c1
   simp at c1
   have hk0:k≠0:=by rintro rfl;have:=g.root.2.2.1;omega
   obtain ⟨u1,u2⟩:=g.up k c1.1 hk0 (fun h=>h)
   unfold kidsR
   rw [if_neg (by simp [hn])]
   split at h
   ·rename_i c2
    rw [h,c2] at u2
    unfold qQ7 listM at u2
    rw [if_pos rfl] at u2
    rw [if_pos ?_]
    ·exact u2
    ·cases hs:(nd d n).hasS with
     | true=>rfl
     | false=>rw [(g.ok n).hs hs] at u2;simp at u2
   ·rename_i c2
    have c2':(nd d k).inS=false:=by simpa using c2
    rw [c2'] at u2
    unfold qQ7 listM at u2
    simp only [Bool.false_eq_true,if_false] at u2
    split at h
    ·rename_i c3
     obtain ⟨s1,s2,s3,s4,s5,s6,s7,-⟩:=qXy g h hn0
     have hg:k∈givenR d n:=qH0.2 ⟨s5,by rw [s6];exact u2,h⟩
     rw [if_neg (by rw [(g.ok n).slot (qVn s5).2];simp),if_neg (by intro e;rw [List.isEmpty_iff] at e;rw [e] at hg;simp at hg)]
     exact hg
    ·rename_i c3
     split at h
     ·omega
     ·rename_i c4
      rw [h] at c3 c4 u2
      rw [if_neg c3,if_pos ?_]
      ·exact u2
      ·simp only [Bool.and_eq_true,decide_eq_true_eq,Bool.not_eq_true',not_and,Bool.not_eq_false] at c4
       cases hs:qYj d n with
       | false=>unfold givenR;simp [hs]
       | true=>exact c4 (qVn hs).2
theorem qW1 (g:G0 qQj 16 r d) {n k:Int} (h:k∈kidsR d n):isM d n false=true/\isM d k false=true/\k≠0:=by
 obtain ⟨a,b⟩:=(qZ7 g).1 h
 refine ⟨a,?_⟩
 have hn0:=(qQf.1 a).1
 unfold upP at b
 split at b
 ·omega
 ·rename_i c1
  simp at c1
  exact ⟨c1.1,by rintro rfl;have:=g.root.2.2.1;omega⟩
theorem zZb (g:G0 qQj 16 r d) (n:Int):upP d n = -1∨isM d (upP d n) false=true:=by
 unfold upP
 split
 ·exact .inl rfl
 ·rename_i c1
  simp at c1
  have hk0:n≠0:=by rintro rfl;have:=g.root.2.2.1;omega
  have hup:=g.upIs c1.1 hk0 (fun h=>h)
  split
  ·exact .inr hup
  ·split
   ·by_cases h:0<=slotR d n
    ·obtain ⟨-,-,-,-,s5,-⟩:=qXy g rfl h
     exact .inr (qVn s5).1
    ·left
     unfold slotR at h ⊢
     split
     ·rfl
     ·rename_i c3
      rw [if_neg c3] at h
      split
      ·rfl
      ·rename_i c4
       rw [if_neg c4] at h
       cases hf:((nd d (nd d n).up).shadow.flatMap (allM d)).find? (qVf d (nd d n).up (said d n qXo)) with
       | none=>rfl
       | some k=>
         exfalso
         rw [hf] at h
         obtain ⟨c,hc,hk⟩:=List.mem_flatMap.1 (List.mem_of_find?_eq_some hf)
         have hci:=(g.kid _ true c hup hc).1
         have:=(qQf.1 ((qBr g 100 c k hci (by omega)).1 hk).is).1
         simp at h;omega
   ·split
    ·exact .inl rfl
    ·exact .inr hup
theorem upR_eq (g:G0 qQj 16 r d) (n:Int):upR d n=upP d n:=by
 unfold upR
 rcases zZb g n with h | h
 ·rw [h]
  have:(List.range d.length).find? (fun k:Nat=>(kidsR d (k:Int)).contains n)=none:=by
   rw [List.find?_eq_none]
   intro k _ hc
   have:=((qZ7 g).1 (List.contains_iff_mem.1 hc)).2
   omega
  rw [this];rfl
 ·have hl:=qZs h
  cases hf:(List.range d.length).find? (fun k:Nat=>(kidsR d (k:Int)).contains n) with
  | none=>
    exfalso
    rw [List.find?_eq_none] at hf
    refine hf (upP d n).toNat (List.mem_range.2 hl.1) ?_
    rw [hl.2]
    exact List.contains_iff_mem.2 ((qZ7 g).2 ⟨h,rfl⟩)
  | some k=>
    have h1:=List.find?_some hf
    have:=((qZ7 g).1 (List.contains_iff_mem.1 h1)).2
    simp [this]
theorem qGy (g:G0 qQj 16 r d) (n:Int):(kidsR d n).Nodup:=by
 unfold kidsR
 split
 ·simp
 ·split
  ·exact (g.ok n).once true
  ·split
   ·exact (g.ok n).once false
   ·unfold givenR
    split
    ·exact ((g.ok _).once false).filter _
    ·simp
theorem qGc (g:G0 qQj 16 r d):Alone (kidsR d) (upP d):=⟨fun _ _ h=>((qZ7 g).1 h).2,qGy g⟩
def qJ0 (x:Nd):Nat:=if x.inS then 1 else 2
def qVz (d:Dc):Nat->Int->Nat
 | 0,_=>0
 | f+1,n=>3*qVz d f (nd d n).up+qJ0 (nd d n)
theorem codeF_lt (d:Dc):∀ f n,qVz d f n+1<=3 ^ f:=by
 intro f
 induction f with
 | zero=>intro n;simp [qVz]
 | succ f ih=>
   intro n
   have:=ih (nd d n).up
   have h2:qJ0 (nd d n)<=2:=by unfold qJ0;split <;> omega
   rw [qVz,Nat.pow_succ];omega
def qVr (d:Dc) (r:Int->Nat) (n:Int):Nat:=qVz d (r n) n*3 ^ (17 - r n)
theorem qYr (g:G0 qQj 16 r d) {n:Int} (h:isM d n false=true) (h0:n≠0):qVz d (r n) n=3*qVz d (r (nd d n).up) (nd d n).up+qJ0 (nd d n)/\3 ^ (17 - r (nd d n).up)=3*3 ^ (17 - r n):=by
 have h1:=g.rank n h
 have h2:=h1.2 h0 (fun h=>h)
 refine ⟨by rw [h2,qVz],?_⟩
 rw [show 17 - r (nd d n).up=(17 - r n)+1 by omega,Nat.pow_succ,Nat.mul_comm]
theorem zZc (g:G0 qQj 16 r d) {a b:Int} (h:Und d a b):(qVz d (r b) b+1)*3 ^ (17 - r b)<=(qVz d (r a) a+1)*3 ^ (17 - r a):=by
 induction h with
 | here _=>exact Nat.le_refl _
 | @step x h1 h2 h3 ih=>
   refine Nat.le_trans ?_ ih
   obtain ⟨a1,a2⟩:=qYr g h1 h2
   have hd:qJ0 (nd d x)<=2:=by unfold qJ0;split <;> omega
   rw [a1,a2,<- Nat.mul_assoc]
   exact Nat.mul_le_mul_right _ (by omega)
theorem zZz (g:G0 qQj 16 r d) {n:Int} (h:isM d n false=true) (h0:n≠0):qVr d r (nd d n).up<qVr d r n:=by
 obtain ⟨a1,a2⟩:=qYr g h h0
 unfold qVr
 rw [a1,a2,<- Nat.mul_assoc]
 refine Nat.mul_lt_mul_of_pos_right ?_ (Nat.pow_pos (by omega))
 have:1<=qJ0 (nd d n):=by unfold qJ0;split <;> omega
 omega
theorem place_le (g:G0 qQj 16 r d) {n:Int} (h:isM d n false=true):qVr d r n<=3 ^ 17:=by
 have h1:=(g.rank n h).1
 have h2:=codeF_lt d (r n) n
 have:3 ^ (r n)*3 ^ (17 - r n)=3 ^ 17:=by rw [<- Nat.pow_add];congr 1;omega
 unfold qVr
 rw [<- this]
 exact Nat.mul_le_mul_right _ (by omega)
theorem qH2 (g:G0 qQj 16 r d):Falls (kidsR d) (fun n=>if isM d n false then qVr d r n else 0) (3 ^ 17):=by
 refine ⟨fun n k hk=>?_,fun n=>?_⟩
 ·obtain ⟨a,b,c⟩:=qW1 g hk
  rw [if_pos a,if_pos b]
  have hu:=((qZ7 g).1 hk).2
  have hn0:=(qQf.1 a).1
  have hpk:=zZz g b c
  unfold upP at hu
  split at hu
  ·omega
  ·split at hu
   ·rw [<- hu];exact hpk
   ·rename_i c2
    have c2:(nd d k).inS=false:=by simpa using c2
    split at hu
    ·obtain ⟨-,-,-,-,s5,s6,-,cc,s8,s9⟩:=qXy g hu hn0
     have hup:=g.upIs b c (fun h=>h)
     obtain ⟨k1,k2,k3,k4,-⟩:=g.kid _ true cc hup s8
     have e1:=zZc g s9
     obtain ⟨p1,p2⟩:=qYr g k1 k4
     obtain ⟨q1,q2⟩:=qYr g b c
     rw [k2] at p1 p2
     have d1:qJ0 (nd d cc)=1:=by unfold qJ0;rw [k3];rfl
     have d2:qJ0 (nd d k)=2:=by unfold qJ0;rw [c2];rfl
     unfold qVr
     have hpow:3 ^ (17 - r cc)=3 ^ (17 - r k):=by
      have:=p2.symm.trans q2
      exact Nat.eq_of_mul_eq_mul_left (by omega) this
     rw [p1,d1,hpow] at e1
     rw [q1,d2]
     refine Nat.lt_of_lt_of_le ?_ e1
     exact Nat.mul_lt_mul_of_pos_right (by omega) (Nat.pow_pos (by omega))
    ·split at hu
     ·omega
     ·rw [<- hu];exact hpk
 ·split
  ·rename_i h;exact place_le g h
  ·exact Nat.zero_le _
theorem qVt (g:G0 qQj 16 r d):∃ μ,Falls (kidsR d) μ d.length:=
 (qH2 g).tight d.length (fun n k hk=>by have:=qZs (qW1 g hk).1;omega)
theorem ends (g:G0 qQj 16 r d) {n:Int} (h:isM d n false=true) {f:Nat} (hf:17<=f):Ends d f n:=(qHq g f n h (by omega)).ends
end
def NoS (d:Dc):Prop:=∀ x∈d,x.hasS=false
theorem NoS.ofNd {d:Dc} (h:NoS d) (n:Int):(nd d n).hasS=false:=by
 unfold Proofs.YtklbmkaomojciaaGreat.nd
 rcases Nat.lt_or_ge n.toNat d.length with e | e
 ·rw [List.getElem?_eq_getElem e];exact h _ (List.getElem_mem e)
 ·rw [List.getElem?_eq_none e];rfl
theorem NoS.with {d:Dc} (h:NoS d) (k:Nat) {x:Nd} (hx:x.hasS=false):NoS (qQn d k x):=by
 unfold qQn
 split
 ·intro y hy
  rcases List.mem_append.1 hy with hy | hy
  ·exact h y hy
  ·simp at hy;subst hy;exact hx
 ·intro y hy
  rcases List.mem_or_eq_of_mem_set hy with hy | rfl
  ·exact h y hy
  ·exact hx
theorem NoS.put {d:Dc} (h:NoS d) (k t before:Int) (sh:Bool):NoS (putM d k t before sh).2:=by
 unfold putM
 split
 ·intro x hx;simp at hx
 ·split
  ·intro x hx;simp at hx
  ·split
   ·intro x hx;simp at hx
   ·refine NoS.with h _ ?_
    rw [(qKd _ _ _).2.2.2.2.2.1];exact h.ofNd t
theorem NoS.take {d:Dc} (h:NoS d) (k:Int):NoS (qZf d k):=NoS.with h _ (h.ofNd _)
theorem NoS.blanks {d:Dc} (l:List Int):NoS d->NoS (qQr d l):=by
 induction l generalizing d with
 | nil=>intro h;exact h
 | cons a l ih=>intro h;exact ih (NoS.with h _ rfl)
theorem NoS.change {d:Dc} (h:NoS d) {x:Chg} (hx:x.kind≠8):NoS (qQ4 d x).2.2:=by
 have e0:NoS []:=by intro x hx;simp at hx
 unfold qQ4
 split
 ·unfold qXw
  split
  ·exact e0
  ·split
   ·exact e0
   ·split
    ·exact e0
    ·exact NoS.put (d:=qQn (qZf d x.node) x.node.toNat { nd d x.node with up:=x.dest,inS:=false }) (NoS.with (d:=qZf d x.node) (h.take x.node) x.node.toNat (x:={ nd d x.node with up:=x.dest,inS:=false }) (h.ofNd x.node)) x.node x.dest x.before false
 ·split
  ·unfold qKe
   split
   ·exact e0
   ·exact NoS.blanks _ (h.take _)
  ·split
   ·unfold sayM
    split
    ·exact e0
    ·exact NoS.with h _ (h.ofNd _)
   ·split
    ·exact e0
    ·split
     ·unfold qZw
      split
      ·exact e0
      ·split
       ·exact e0
       ·split
        ·exact e0
        ·exact NoS.with h _ (h.ofNd _)
     ·split
      ·unfold qXt
       split
       ·exact e0
       ·exact NoS.with h _ (h.ofNd _)
      ·unfold qQo
       split
       ·exact e0
       ·split
        ·exact e0
        ·split
         ·exact e0
         ·unfold qZd
          split
          ·exact e0
          ·exact NoS.put (NoS.with h _ (by unfold qV9;split <;> rfl)) _ _ _ _
theorem NoS.build {l:List Chg} (hl:∀ x∈l,x.kind≠8):NoS (qZq l):=by
 have:∀ (l:List Chg) (d:Dc),(∀ x∈l,x.kind≠8)->NoS d->NoS (l.foldl qZ9 d):=by
  intro l
  induction l with
  | nil=>intro d _ h;exact h
  | cons x l ih=>
    intro d hl h
    refine ih _ (fun y hy=>hl y (by simp [hy])) ?_
    unfold qZ9
    split
    ·unfold qQ1
     split
     ·exact fun y hy=>by simp at hy
     ·split
      ·exact fun y hy=>by simp at hy
      ·split
       ·intro y hy
        exact NoS.change h (hl x (by simp)) y (List.mem_of_mem_take hy)
       ·exact fun y hy=>by simp at hy
    ·exact h
 refine this l _ hl ?_
 intro y hy
 simp [rootD] at hy
 subst hy;rfl
theorem qWl {d:Dc} (g:Good d):(shownR d).Nodup/\∀ n∈shownR d,isM d n false=true:=by
 obtain ⟨r,g'⟩:=g.tree
 obtain ⟨μ,F⟩:=qVt g'
 have hl:=g.len
 refine ⟨qHw F (qGc g') 100 0 (by omega),fun n hn=>?_⟩
 have hr:=(zJe F 100 0 n (by omega)).1 hn
 cases hr with
 | here=>exact g'.is0
 | step _ h=>exact (qW1 g' h).2.1
structure Clm where
 owner:Int
 kid:Int
 deriving DecidableEq
def qJ1 (l:List Clm) (n:Int):Int:=((l.find? (fun c=>c.kid==n)).map (·.owner)).getD (-1)
def inM (d:Dc) (l:List Clm) (n:Int):Int:=if 0<=qJ1 l n then qJ1 l n else upR d n
def qX2 (up:Int->Int):Nat->Int->List Int
 | 0,_=>[]
 | f+1,n=>if n<0 then [] else n::qX2 up f (up n)
structure Rises (up:Int->Int) (μ:Int->Nat):Prop where
 up:∀ n,0<=n->0<=up n->μ (up n)<μ n
inductive On (up:Int->Int):Int->Int->Prop
 | here {n:Int}:0<=n->On up n n
 | step {n x:Int}:0<=n->On up (up n) x->On up n x
section
variable {up:Int->Int} {μ:Int->Nat}
theorem On.ge {n x:Int} (h:On up n x):0<=n:=by cases h <;> assumption
theorem On.le (R:Rises up μ) {n x:Int} (h:On up n x):μ x<=μ n:=by
 induction h with
 | here _=>exact Nat.le_refl _
 | @step n x h1 h2 ih=>have:=R.up n h1 h2.ge;omega
theorem zQx (R:Rises up μ):∀ f n x,μ n<f->(x∈qX2 up f n↔On up n x):=by
 intro f
 induction f with
 | zero=>intro n x h;omega
 | succ f ih=>
   intro n x h
   rw [qX2]
   split
   ·rename_i hn
    constructor
    ·intro h;simp at h
    ·intro h;have:=h.ge;omega
   ·rename_i hn
    rw [List.mem_cons]
    by_cases hu:0<=up n
    ·have:=R.up n (by omega) hu
     rw [ih (up n) x (by omega)]
     constructor
     ·rintro (rfl | h)
      ·exact .here (by omega)
      ·exact .step (by omega) h
     ·intro h
      cases h with
      | here _=>exact .inl rfl
      | step _ h=>exact .inr h
    ·have e:qX2 up f (up n)=[]:=by cases f <;> simp [qX2];omega
     rw [e]
     constructor
     ·rintro (rfl | h)
      ·exact .here (by omega)
      ·simp at h
     ·intro h
      cases h with
      | here _=>exact .inl rfl
      | step _ h=>have:=h.ge;omega
open Classical in
theorem Rises.owned (R:Rises up μ) {o k:Int} (ho:¬ On up o k):∃ μ',Rises (fun n=>if n=k then o else up n) μ':=by
 refine ⟨fun n=>if On up n k then μ n+(μ o+1) else μ n,⟨fun n hn hu=>?_⟩⟩
 by_cases e:n=k
 ·subst e
  rw [if_pos rfl] at hu ⊢
  rw [if_neg ho,if_pos (.here hn)]
  omega
 ·rw [if_neg e] at hu ⊢
  have h1:=R.up n hn hu
  by_cases h2:On up n k
  ·have h3:On up (up n) k:=by
    cases h2 with
    | here _=>exact absurd rfl e
    | step _ h=>exact h
   rw [if_pos h2,if_pos h3];omega
  ·rw [if_neg h2,if_neg (fun h=>h2 (.step hn h))];exact h1
end
theorem Rises.tight {up:Int->Int} {μ:Int->Nat} (R:Rises up μ) (L:Nat) (hin:∀ n,0<=n->0<=up n->up n<L):∃ μ',Rises up μ'/\∀ n,μ' n<=L:=by
 refine ⟨fun n=>((List.range L).filter (fun x:Nat=>decide (μ (x:Int)<μ n))).length,⟨fun n hn hu=>?_⟩,fun n=>?_⟩
 ·have h1:=R.up n hn hu
  have h2:=hin n hn hu
  have hsub:∀ l:List Nat,(l.filter (fun x:Nat=>decide (μ (x:Int)<μ (up n)))).length<=(l.filter (fun x:Nat=>decide (μ (x:Int)<μ n))).length:=by
   intro l
   induction l with
   | nil=>simp
   | cons a l ih=>
     simp only [List.filter_cons,decide_eq_true_eq]
     split
     ·rw [if_pos (by omega)];simp;exact ih
     ·split
      ·simp;omega
      ·exact ih
  obtain ⟨l1,l2,e⟩:=List.append_of_mem (List.mem_range.2 (show (up n).toNat<L by omega))
  rw [e]
  simp only [List.filter_append,List.filter_cons,List.length_append,decide_eq_true_eq]
  rw [if_neg (by rw [show (((up n).toNat:Nat):Int)=up n by omega];omega),if_pos (by rw [show (((up n).toNat:Nat):Int)=up n by omega];exact h1)]
  have a1:=hsub l1
  have a2:=hsub l2
  simp only [List.length_cons]
  omega
 ·exact Nat.le_trans (List.length_filter_le _ _) (by simp)
def ownsT:Txt:=[97,114,105,97,45,111,119,110,115]
def idT:Txt:=[105,100]
def findD (d:Dc) (n:Int) (id:Txt):Int:=
 if id.isEmpty||!isM d n false then -1
 else ((allM d 0).find? (fun k=>decide (said d k idT=id)&&decide (qXi d k=qXi d n))).getD (-1)
def onB (d:Dc) (l:List Clm) (n k:Int):Bool:=(qX2 (inM d l) 100 n).contains k
def qXq (d:Dc) (n:Int) (l:List Clm) (id:Txt):List Clm:=
 if findD d n id<1||!(shownR d).contains (findD d n id)||decide (0<=qJ1 l (findD d n id))||onB d l n (findD d n id) then l else l++[⟨n,findD d n id⟩]
def claimsOf (d:Dc) (l:List Clm) (n:Int):List Clm:=(toks (said d n ownsT)).foldl (qXq d n) l
structure ClmOk (d:Dc) (l:List Clm):Prop where
 rises:∃ μ,Rises (inM d l) μ
 once:(l.map (·.kid)).Nodup
 kid:∀ c∈l,c.kid∈shownR d/\1<=c.kid
 owner:∀ c∈l,c.owner∈shownR d
theorem qWd {l:List Clm} {n:Int} (h:∀ c∈l,0<=c.owner):qJ1 l n<0↔∀ c∈l,c.kid≠n:=by
 unfold qJ1
 cases hf:l.find? (fun c=>c.kid==n) with
 | none=>
   rw [List.find?_eq_none] at hf
   simp at hf ⊢
   exact hf
 | some c=>
   have h1:=List.find?_some hf
   have h2:=List.mem_of_find?_eq_some hf
   have:=h c h2
   simp at h1
   constructor
   ·intro h;simp at h;omega
   ·intro h;exact absurd h1 (h c h2)
theorem qDl {l:List Clm} {o k n:Int} (hk:qJ1 l k<0) (hl:∀ c∈l,0<=c.owner):qJ1 (l++[⟨o,k⟩]) n=if n=k then o else qJ1 l n:=by
 unfold qJ1
 rw [List.find?_append]
 by_cases e:n=k
 ·subst e
  have:l.find? (fun c=>c.kid==n)=none:=by
   rw [List.find?_eq_none];intro c hc;simp;exact (qWd hl).1 hk c hc
  rw [this,if_pos rfl]
  simp
 ·rw [if_neg e]
  have:([⟨o,k⟩]:List Clm).find? (fun c=>c.kid==n)=none:=by
   simp;exact fun h=>e h.symm
  rw [this];simp
section
variable {d:Dc}
theorem qFt (g:Good d) {n:Int} (h:n∈shownR d):0<=n:=(qQf.1 ((qWl g).2 n h)).1
theorem ClmOk.owner_ge {l:List Clm} (g:Good d) (h:ClmOk d l):∀ c∈l,0<=c.owner:=fun c hc=>qFt g (h.owner c hc)
theorem upR_lt (g:Good d) (n:Int):upR d n<d.length:=by
 obtain ⟨r,g'⟩:=g.tree
 rw [upR_eq g']
 rcases zZb g' n with h | h
 ·omega
 ·have:=qZs h;omega
theorem inM_lt (g:Good d) {l:List Clm} (h:ClmOk d l) (n:Int):inM d l n<d.length:=by
 unfold inM
 split
 ·rename_i ho
  unfold qJ1 at ho ⊢
  cases hf:l.find? (fun c=>c.kid==n) with
  | none=>rw [hf] at ho;simp at ho
  | some c=>
    have:=qZs ((qWl g).2 _ (h.owner c (List.mem_of_find?_eq_some hf)))
    simp;omega
 ·exact upR_lt g n
theorem ClmOk.tight (g:Good d) {l:List Clm} (h:ClmOk d l):∃ μ,Rises (inM d l) μ/\∀ n,μ n<100:=by
 obtain ⟨μ,R⟩:=h.rises
 obtain ⟨μ',R',hl⟩:=R.tight d.length (fun n _ _=>inM_lt g h n)
 have:=g.len
 exact ⟨μ',R',fun n=>by have:=hl n;omega⟩
theorem onB_iff (g:Good d) {l:List Clm} (h:ClmOk d l) {n k:Int}:onB d l n k=true↔On (inM d l) n k:=by
 obtain ⟨μ,R,hl⟩:=h.tight g
 unfold onB
 rw [List.contains_iff_mem]
 exact zQx R 100 n k (hl n)
theorem ClmOk.nil (g:Good d):ClmOk d []:=by
 obtain ⟨r,g'⟩:=g.tree
 obtain ⟨μ,F⟩:=qVt g'
 refine ⟨⟨μ,⟨fun n hn hu=>?_⟩⟩,by simp,by simp,by simp⟩
 have e:inM d [] n=upR d n:=by unfold inM qJ1;simp
 rw [e] at hu ⊢
 rw [upR_eq g'] at hu ⊢
 rcases zZb g' n with h | h
 ·omega
 ·exact F.down _ _ ((qZ7 g').2 ⟨h,rfl⟩)
theorem ClmOk.step (g:Good d) {l:List Clm} (h:ClmOk d l) {n:Int} (hn:n∈shownR d) (id:Txt):ClmOk d (qXq d n l id):=by
 unfold qXq
 split
 ·exact h
 ·rename_i c
  simp only [Bool.or_eq_true,decide_eq_true_eq,Bool.not_eq_true',not_or,Bool.not_eq_false] at c
  obtain ⟨⟨⟨c1,c2⟩,c3⟩,c4⟩:=c
  generalize findD d n id=k at *
  have hk:k∈shownR d:=List.contains_iff_mem.1 c2
  have hn0:=qFt g hn
  obtain ⟨μ,R⟩:=h.rises
  have hno:¬ On (inM d l) n k:=fun e=>c4 ((onB_iff g h).2 e)
  have hk0:qJ1 l k<0:=by omega
  have hog:=h.owner_ge g
  refine ⟨?_,?_,?_,?_⟩
  ·obtain ⟨μ',R'⟩:=R.owned hno
   refine ⟨μ',⟨fun x hx hu=>?_⟩⟩
   have e:inM d (l++[⟨n,k⟩]) x=if x=k then n else inM d l x:=by
    unfold inM
    rw [qDl hk0 hog]
    split
    ·rfl
    ·rfl
   rw [e] at hu ⊢
   exact R'.up x hx hu
  ·rw [List.map_append,List.nodup_append]
   refine ⟨h.once,by simp,?_⟩
   intro a ha b hb e
   simp at hb
   obtain ⟨c,hc,rfl⟩:=List.mem_map.1 ha
   exact (qWd hog).1 hk0 c hc (e.trans hb)
  ·intro c hc
   rcases List.mem_append.1 hc with hc | hc
   ·exact h.kid c hc
   ·simp at hc;subst hc;exact ⟨hk,show 1<=k by omega⟩
  ·intro c hc
   rcases List.mem_append.1 hc with hc | hc
   ·exact h.owner c hc
   ·simp at hc;subst hc;exact hn
theorem ClmOk.of (g:Good d) {n:Int} (hn:n∈shownR d):∀ (ws:List Txt) (l:List Clm),ClmOk d l->ClmOk d (ws.foldl (qXq d n) l):=by
 intro ws
 induction ws with
 | nil=>intro l h;exact h
 | cons w ws ih=>intro l h;exact ih _ (h.step g hn w)
theorem ClmOk.all (g:Good d):∀ (ns:List Int) (l:List Clm),(∀ n∈ns,n∈shownR d)->ClmOk d l->ClmOk d (ns.foldl (claimsOf d) l):=by
 intro ns
 induction ns with
 | nil=>intro l _ h;exact h
 | cons n ns ih=>intro l hn h;exact ih _ (fun m hm=>hn m (by simp [hm])) (ClmOk.of g (hn n (by simp)) _ _ h)
end
abbrev Str:=List UInt8
structure Kd where
 name:Str
 content:Bool:=false
 leaf:Bool:=false
 level:Bool:=false
 checked:Bool:=false
 named:Bool:=false
 need:Int:=0
 deriving DecidableEq
def kOf (r:Int):Kd:=
 if r=1 then { name:=[103,114,111,117,112],named:=true }
 else if r=2 then { name:=[109,97,105,110],named:=true }
 else if r=3 then { name:=[110,97,118,105,103,97,116,105,111,110],named:=true }
 else if r=4 then { name:=[104,101,97,100,105,110,103],named:=true,content:=true,level:=true }
 else if r=5 then { name:=[108,105,115,116],named:=true }
 else if r=6 then { name:=[108,105,115,116,105,116,101,109],level:=true,need:=5 }
 else if r=7 then { name:=[108,105,110,107],named:=true,content:=true }
 else if r=8 then { name:=[98,117,116,116,111,110],named:=true,content:=true,leaf:=true }
 else if r=9 then { name:=[99,104,101,99,107,98,111,120],named:=true,content:=true,leaf:=true,checked:=true }
 else if r=10 then { name:=[116,101,120,116],leaf:=true }
 else if r=11 then { name:=[105,109,103],named:=true,leaf:=true }
 else if r=12 then { name:=[116,101,120,116,98,111,120],named:=true,leaf:=true }
 else if r=13 then { name:=[116,97,98,108,101],named:=true }
 else if r=14 then { name:=[114,111,119],named:=true,content:=true,need:=13 }
 else if r=15 then { name:=[99,101,108,108],named:=true,content:=true,need:=14 }
 else if r=16 then { name:=[114,101,103,105,111,110],named:=true }
 else if r=17 then { name:=[100,105,97,108,111,103],named:=true }
 else if r=18 then { name:=[103,101,110,101,114,105,99] }
 else { name:=[] }
def tags:List (Str×Int):=[([109,97,105,110],2),([110,97,118],3),([104,49],4),([104,50],4),([104,51],4),([117,108],5),([108,105],6),([98,117,116,116,111,110],8),([116,97,98,108,101],13),([116,114],14),([116,100],15),([100,105,97,108,111,103],17)]
def roles:List (Str×Int):=[([103,114,111,117,112],1),([109,97,105,110],2),([110,97,118,105,103,97,116,105,111,110],3),([104,101,97,100,105,110,103],4),([108,105,115,116],5),([108,105,115,116,105,116,101,109],6),([108,105,110,107],7),([98,117,116,116,111,110],8),([99,104,101,99,107,98,111,120],9),([105,109,103],11),([116,101,120,116,98,111,120],12),([116,97,98,108,101],13),([114,111,119],14),([99,101,108,108],15),([114,101,103,105,111,110],16),([100,105,97,108,111,103],17)]
def tagM:List (Str×Int)->Str->Option Int
 | [],_=>none
 | (k,n)::r,s=>if s=k then some n else tagM r s
def tagOf (s:Str):Int:=(tagM tags s).getD 18
def sNone:Str:=[110,111,110,101]
def sPres:Str:=[112,114,101,115,101,110,116,97,116,105,111,110]
def findM (s:Str):Int:=if s=sNone∨s=sPres then 0 else (tagM roles s).getD (-1)
def labelT:Txt:=[97,114,105,97,45,108,97,98,101,108]
def zQz:Txt:=[97,114,105,97,45,108,97,98,101,108,108,101,100,98,121]
def roleT:Txt:=[114,111,108,101]
def hrefT:Txt:=[104,114,101,102]
def typeT:Txt:=[116,121,112,101]
def altT:Txt:=[97,108,116]
def qH8:Txt:=[116,105,116,108,101]
def hiddenT:Txt:=[104,105,100,100,101,110]
def ahiddenT:Txt:=[97,114,105,97,45,104,105,100,100,101,110]
def zQ8:Txt:=[99,104,101,99,107,98,111,120]
def trueT:Txt:=[116,114,117,101]
def aT:Txt:=[97]
def inputT:Txt:=[105,110,112,117,116]
def imgT:Txt:=[105,109,103]
def qFf:Txt:=[115,101,99,116,105,111,110]
def sq (d:Dc) (n:Int) (s:Txt):Txt:=squeeze (said d n s)
def hasA (d:Dc) (n:Int) (s:Txt):Bool:=(qKr d n s).isSome
def qJp (d:Dc) (n:Int):Bool:=!(sq d n labelT).isEmpty||!(sq d n zQz).isEmpty
def askF (lab:Bool):List Txt->Int
 | []=>-1
 | w::ws=>if findM w=0/\lab=true then -1 else if 0<=findM w then findM w else askF lab ws
def qBk (d:Dc) (n:Int):Int:=
 if (nd d n).tag=aT then (if hasA d n hrefT then 7 else tagOf aT)
 else if (nd d n).tag=inputT then (if qY6 (sq d n typeT)=zQ8 then 9 else 12)
 else if (nd d n).tag=imgT then (if hasA d n altT&&(sq d n altT).isEmpty&&!qJp d n then 0 else 11)
 else if (nd d n).tag=qFf then (if qJp d n||!(sq d n qH8).isEmpty then 16 else tagOf qFf)
 else tagOf (nd d n).tag
def qHt (d:Dc) (n:Int):Int:=askF (qJp d n) (toks (qY6 (said d n roleT)))
def qGd (d:Dc) (n:Int):Int:=if qHt d n<0 then qBk d n else qHt d n
def zQ5 (d:Dc) (n:Int) (p:Int×Int):Int×Int:=
 let x:=if !isM d n false then 0 else if (nd d n).tag.isEmpty then 10 else if (kOf (qGd d n)).need=0 then qGd d n else if p.2=(kOf (qGd d n)).need then qGd d n else 18
 (x,if x=0∨x=18 then p.2 else x)
def rnF (d:Dc):Nat->Int->Int×Int
 | 0,_=>(0,-1)
 | f+1,n=>if n<0 then (0,-1) else zQ5 d n (rnF d f (upR d n))
theorem rnF_s (d:Dc) (f:Nat) (n:Int):rnF d (f+1) n=if n<0 then (0,-1) else zQ5 d n (rnF d f (upR d n)):=rfl
def roleM (d:Dc) (n:Int):Int:=(rnF d 100 n).1
def offM (d:Dc) (n:Int):Bool:=hasA d n hiddenT||decide (qY6 (sq d n ahiddenT)=trueT)
def hidF (d:Dc):Nat->Int->Bool
 | 0,_=>true
 | f+1,n=>!isM d n false||offM d n||(decide (n≠0)&&hidF d f (upR d n))
def zQ7 (d:Dc) (n:Int):Bool:=hidF d 100 n
section
variable {d:Dc}
end
def qFl:Txt:=[118,97,108,117,101]
structure St where
 had:Int->Bool
 asked:Int->Bool
def ups (d:Dc) (n:Int):List Int:=qX2 (upR d) 100 n
def qKq (d:Dc) (h:Int->Bool):Nat:=(List.range d.length).countP (fun k:Nat=>!h (k:Int))
structure Does (d:Dc) (s:St) (r:Txt×St):Prop where
 had:∀ x,s.had x=true->r.2.had x=true
 asked:∀ x,s.asked x=true->r.2.asked x=true
 len:r.1.length+61*qKq d r.2.had<=61*qKq d s.had
 free:qKq d r.2.had<=qKq d s.had
theorem Does.none {d:Dc} (s:St):Does d s ([],s):=⟨fun _ h=>h,fun _ h=>h,by simp,Nat.le_refl _⟩
structure DoesS (d:Dc) (s:St) (r:Txt×St):Prop where
 had:∀ x,s.had x=true->r.2.had x=true
 asked:∀ x,s.asked x=true->r.2.asked x=true
 len:r.1.length<=60∨r.1.length+61*qKq d r.2.had<=61*qKq d s.had
 free:qKq d r.2.had<=qKq d s.had
theorem Does.s {d:Dc} {s:St} {r:Txt×St} (h:Does d s r):DoesS d s r:=⟨h.had,h.asked,.inr h.len,h.free⟩
theorem DoesS.short {d:Dc} (s:St) {t:Txt} (h:t.length<=60):DoesS d s (t,s):=⟨fun _ h=>h,fun _ h=>h,.inl h,Nat.le_refl _⟩
theorem DoesS.then {d:Dc} {s:St} {r r':Txt×St} (h:DoesS d s r) (k:DoesS d r.2 r'):DoesS d s r':=by
 refine ⟨fun x hx=>k.had x (h.had x hx),fun x hx=>k.asked x (h.asked x hx),?_,Nat.le_trans k.free h.free⟩
 have:=h.free
 rcases k.len with h1 | h1
 ·exact .inl h1
 ·right;omega
structure DoesL (d:Dc) (s:St) (r:List Txt×St):Prop where
 had:∀ x,s.had x=true->r.2.had x=true
 asked:∀ x,s.asked x=true->r.2.asked x=true
 len:(r.1.map (fun t=>t.length+1)).sum+61*qKq d r.2.had<=61*qKq d s.had
 free:qKq d r.2.had<=qKq d s.had
structure Does1 (d:Dc) (s:St) (r:Txt×St):Prop where
 had:∀ x,s.had x=true->r.2.had x=true
 asked:∀ x,s.asked x=true->r.2.asked x=true
 len:r.1.length+1+61*qKq d r.2.had<=61*qKq d s.had
 free:qKq d r.2.had+1<=qKq d s.had
end Go.Proofs.YtklbmkaomojciaaGreat
