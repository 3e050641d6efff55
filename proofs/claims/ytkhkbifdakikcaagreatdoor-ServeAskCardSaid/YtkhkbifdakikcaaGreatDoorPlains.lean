/- Plain laws: words, documents, who is in what, kinds, roles, names. -/
import GoSem.Op.String
namespace Go.Proofs.YtkhkbifdakikcaaGreatDoor
variable {b n x:Int} {l:List Int} {a k:Nat} {cur:Option Nat}
abbrev L:=List UInt8
def blank (c:UInt8):Bool:=c==32||c==9||c==10||c==13
def low (c:UInt8):UInt8:=if 65<=c/\c<=90 then c+32 else c
def toksF:Option L->L->List L
 | none,[]=>[]
 | some w,[]=>[w]
 | none,c::r=>if blank c then toksF none r else toksF (some [c]) r
 | some w,c::r=>if blank c then w::toksF none r else toksF (some (w++[c])) r
def toks (s:L):List L:=toksF none s
def join:List L->L
 | []=>[]
 | [w]=>w
 | w::v::r=>w++32::join (v::r)
def qQn (s:L):L:=join (toks s)
def qKd (s:L):L:=s.map low
def digit (c:UInt8):Bool:=48<=c&&c<=57
def numF (n:Int):L->Int
 | []=>n
 | c::r=>if digit c then numF (10*n+((c.toNat:Int) - 48)) r else 0
def num (s:L):Int:=if 1<=(qQn s).length/\(qQn s).length<=2 then numF 0 (qQn s) else 0
def zWx (c:UInt8):Bool:=97<=c&&c<=122
def okc (c:UInt8):Bool:=zWx c||c==45||digit c
def chk (i:Nat) (c:UInt8):Bool:=zWx c||(i != 0&&okc c)
def qV1 (i:Nat):L->Bool
 | []=>true
 | c::r=>chk i c&&qV1 (i+1) r
def name (s:L):Bool:=decide (1<=s.length)&&decide (s.length<=20)&&qV1 0 s
theorem toksF_ok (o:Option L) (s:L) (g:∀ w,o=some w->w≠[]/\∀ c∈w,blank c=false):∀ t∈toksF o s,t≠[]/\∀ c∈t,blank c=false:=by
 induction s generalizing o with
 | nil=>
   cases o with
   | none=>simp [toksF]
   | some w=>intro t e;simp [toksF] at e;subst e;exact g _ rfl
 | cons c r i=>
   cases o with
   | none=>
     simp only [toksF];by_cases h:blank c
     ·simp only [h,if_true];exact i none (by simp)
     ·simp only [h,Bool.false_eq_true,if_false];exact i (some [c]) (by intro w j;simp at j;subst j;simp [h])
   | some w=>
     simp only [toksF];by_cases h:blank c
     ·simp only [h,if_true];intro t e;rcases List.mem_cons.1 e with rfl | e
      ·exact g _ rfl
      ·exact i none (by simp) t e
     ·simp only [h,Bool.false_eq_true,if_false];refine i (some (w++[c])) ?_;intro x m;simp at m;subst m;obtain ⟨q,p⟩:=g _ rfl;refine ⟨by simp,?_⟩;intro d H;rcases List.mem_append.1 H with H | H
      ·exact p d H
      ·simp at H;subst H;simpa using h
theorem toks_ok (s:L):∀ t∈toks s,t≠[]/\∀ c∈t,blank c=false:=toksF_ok none s (by simp)
theorem qGl (s:L):(qKd s).length=s.length:=by simp [qKd]
def wsum (l:List L):Nat:=(l.map fun t=>t.length+1).sum
theorem qHs (o:Option L) (s:L):wsum (toksF o s)<=(o.map (·.length)).getD 0+s.length+1:=by
 induction s generalizing o with
 | nil=>cases o <;> simp [toksF,wsum]
 | cons c r i=>
   cases o with
   | none=>
     simp only [toksF];split
     ·have:=i none;simp at this ⊢;omega
     ·have:=i (some [c]);simp at this ⊢;omega
   | some w=>
     simp only [toksF];split
     ·have:=i none;simp [wsum] at this ⊢;omega
     ·have:=i (some (w++[c]));simp at this ⊢;omega
theorem qF8 (l:List L):(join l).length+1<=wsum l+1/\(l≠[]->(join l).length+1=wsum l):=by
 induction l with
 | nil=>simp [join,wsum]
 | cons w r i=>
   cases r with
   | nil=>simp [join,wsum]
   | cons v r=>
     have:=i.2 (by simp);simp [join,wsum] at this ⊢;omega
theorem qY0 (s:L):(qQn s).length<=s.length:=by
 have H:=qHs none s;have e:=qF8 (toks s);unfold qQn;unfold toks at *
 simp at H;by_cases h:toksF none s=[]
 ·rw [h];simp [join]
 ·have:=e.2 h;omega
def Plain (q:L):Prop:=∀ i (hi:i<q.length),blank q[i]=true->q[i]=32/\0<i/\i+1<q.length/\∃ h:i - 1<q.length,q[i - 1]≠32
def qJ5 (s:L) (out:List L) (cur:Option Nat) (k:Nat):Prop:=
 if k<=s.length then out++toksF (cur.map fun a=>(s.drop a).take (k - a)) (s.drop k)=toks s/\(∀ a,cur=some a->a<k) else out=toks s/\cur=none
theorem zBi (s:L):qJ5 s [] none 0:=by simp [qJ5,toks]
theorem zHm {s:L} {O:List L} (h:qJ5 s O cur k) (H:s.length<k):O=toks s:=by
 unfold qJ5 at h;rw [if_neg (by omega)] at h;exact h.1
theorem zJq {s:L} {O:List L} (h:qJ5 s O (some a) k):a<k/\k<=s.length:=by
 unfold qJ5 at h;split at h
 ·rename_i H;exact ⟨h.2 a rfl,H⟩
 ·cases h.2
theorem scan_len {s:L} {O:List L} (h:qJ5 s O cur k):O.length<=(toks s).length:=by
 unfold qJ5 at h;split at h
 ·rw [<- h.1];simp
 ·rw [h.1];omega
theorem qY6 (s:L):(toks s).length<=s.length:=by
 have e:=qHs none s;have g:∀ l:List L,(∀ t∈l,t≠[])->2*l.length<=wsum l:=by
  intro l;induction l with
  | nil=>simp [wsum]
  | cons w r i=>
    intro h;have:=i (fun t H=>h t (List.mem_cons_of_mem _ H));have:0<w.length:=List.length_pos_iff.2 (h w (by simp));simp [wsum] at *
    omega
 have:=g (toks s) (fun t H=>(toks_ok s t H).1);unfold toks at *
 simp at e;omega
theorem qV2 {s:L} {O:List L} (h:qJ5 s O none k) (g:k<=s.length) (H:∀ (i:k<s.length),blank s[k]=true):qJ5 s O none (k+1):=by
 unfold qJ5 at h ⊢;rw [if_pos g] at h;by_cases e:k<s.length
 ·rw [if_pos (by omega)];rw [List.drop_eq_getElem_cons e] at h;simp only [Option.map_none,toksF,H e,if_true] at h;exact ⟨h.1,by simp⟩
 ·rw [if_neg (by omega)];rw [List.drop_eq_nil_of_le (by omega)] at h;simp only [Option.map_none,toksF,List.append_nil] at h;exact ⟨h.1,rfl⟩
theorem qVt {s:L} {O:List L} (h:qJ5 s O (some a) k) (H:∀ (i:k<s.length),blank s[k]=true):qJ5 s (O++[(s.drop a).take (k - a)]) none (k+1):=by
 obtain ⟨j,g⟩:=zJq h;unfold qJ5 at h ⊢;rw [if_pos g] at h;by_cases e:k<s.length
 ·rw [if_pos (by omega)];rw [List.drop_eq_getElem_cons e] at h;simp only [Option.map_some,toksF,H e,if_true] at h;refine ⟨?_,by simp⟩;simp only [Option.map_none,List.append_assoc,List.singleton_append];exact h.1
 ·rw [if_neg (by omega)];rw [List.drop_eq_nil_of_le (by omega:s.length<=k)] at h;simp only [Option.map_some,toksF] at h;exact ⟨h.1,rfl⟩
theorem zXp {s:L} {O:List L} (h:qJ5 s O none k) (H:k<s.length) (e:blank s[k]=false):qJ5 s O (some k) (k+1):=by
 unfold qJ5 at h ⊢;rw [if_pos (by omega)] at h ⊢;rw [List.drop_eq_getElem_cons H] at h;simp only [Option.map_none,toksF,e,Bool.false_eq_true,if_false] at h;refine ⟨?_,by simp⟩;simp only [Option.map_some,List.drop_eq_getElem_cons H,show k+1 - k=1 by omega,List.take_succ_cons,List.take_zero];exact h.1
theorem zKg {s:L} {O:List L} (h:qJ5 s O (some a) k) (g:k<s.length) (H:blank s[k]=false):qJ5 s O (some a) (k+1):=by
 obtain ⟨i,_⟩:=zJq h;unfold qJ5 at h ⊢;rw [if_pos (by omega)] at h ⊢;rw [List.drop_eq_getElem_cons g] at h;simp only [Option.map_some,toksF,H,Bool.false_eq_true,if_false] at h;refine ⟨?_,by simp;omega⟩;have e:(s.drop a).take (k+1 - a)=(s.drop a).take (k - a)++[s[k]]:=by
  rw [show k+1 - a=(k - a)+1 by omega,List.take_succ_eq_append_getElem (by simp;omega)];simp [show a+(k - a)=k by omega]
 simp only [Option.map_some,e];exact h.1
theorem zG2 (s:L):wsum (toks s)<=s.length+1:=by
 have:=qHs none s;simpa [toks] using this
theorem qGw (l:List L):[32].intercalate l=join l:=by
 induction l with
 | nil=>rfl
 | cons w r i=>
   cases r with
   | nil=>simp [List.intercalate,join]
   | cons v r=>
     simp only [List.intercalate,List.intersperse,List.flatten_cons,join] at i ⊢;rw [i];simp
def qBz (s:L) (k:Nat):L:=(s.take k).map low++s.drop k
theorem zXc (s:L) (k:Nat):(qBz s k).length=s.length:=by simp [qBz];omega
theorem zBd (s:L):qBz s 0=s:=rfl
theorem zFj (s:L) (k:Nat) (h:s.length<=k):qBz s k=qKd s:=by
 simp [qBz,qKd,List.take_of_length_le h,List.drop_eq_nil_of_le h]
theorem zV9 {s:L} (h:k<s.length):(qBz s k)[k]'(by rw [zXc];exact h)=s[k]:=by
 unfold qBz;rw [List.getElem_append_right (by simp;omega)];simp [show min k s.length=k by omega]
theorem zZn {s:L} (h:k<s.length):qBz s (k+1)=(qBz s k).set k (low s[k]):=by
 unfold qBz;have e:=List.take_succ_eq_append_getElem h;have E:=List.drop_eq_getElem_cons h;have g:(s.take k).length=k:=by simp;omega
 generalize s[k]=c at *
 generalize s.drop (k+1)=r at *
 generalize s.take k=t at *
 rw [e,E,List.set_append_right _ _ (by simp;omega)];simp [g]
theorem zBc {s:L} (H:k<s.length) (h:low s[k]=s[k]):qBz s (k+1)=qBz s k:=by
 rw [zZn H,h];have:=zV9 H;rw [<- this];exact List.set_getElem_self _
theorem low_up {c:UInt8} (h:65<=c.toNat) (H:c.toNat<=90):low c=c+32/\(c+32).toNat=c.toNat+32:=by
 refine ⟨?_,by rw [UInt8.toNat_add];simp;omega⟩;unfold low;rw [if_pos];simp only [UInt8.le_iff_toNat_le];exact ⟨by simpa using h,by simpa using H⟩
theorem low_id {c:UInt8} (h:c.toNat<65∨90<c.toNat):low c=c:=by
 unfold low;rw [if_neg];simp only [UInt8.le_iff_toNat_le];intro H;have e:=H.1;have g:=H.2;simp at e g;omega
theorem zQi {s:L} (h:k<s.length):qV1 k (s.drop k)=(chk k s[k]&&qV1 (k+1) (s.drop (k+1))):=by
 have e:=List.drop_eq_getElem_cons h;generalize s[k]=c at *
 generalize s.drop (k+1)=r at *
 rw [e];rfl
theorem zB7 (c:UInt8):c.toNat<45∨c.toNat=45∨(45<c.toNat/\c.toNat<48)∨(48<=c.toNat/\c.toNat<=57)∨(57<c.toNat/\c.toNat<97)∨(97<=c.toNat/\c.toNat<=122)∨122<c.toNat:=by omega
theorem zFy (c:UInt8):zWx c=decide (97<=c.toNat/\c.toNat<=122):=by
 simp [zWx,UInt8.le_iff_toNat_le]
theorem zHi (c:UInt8):digit c=decide (48<=c.toNat/\c.toNat<=57):=by
 simp [digit,UInt8.le_iff_toNat_le]
theorem dash_iff (c:UInt8):(c==45)=decide (c.toNat=45):=by
 rw [Bool.eq_iff_iff];simp only [beq_iff_eq,decide_eq_true_eq];constructor
 ·rintro rfl;rfl
 ·intro h;apply UInt8.toNat_inj.1;simp [h]
theorem chk_eq (i:Nat) (c:UInt8):chk i c=(decide (97<=c.toNat/\c.toNat<=122)||(decide (i≠0)&&(decide (c.toNat=45)||decide (48<=c.toNat/\c.toNat<=57)||decide (97<=c.toNat/\c.toNat<=122)))):=by
 unfold chk okc;rw [zFy,zHi,dash_iff];rw [show (i != 0)=decide (i≠0) by by_cases h:i=0 <;> simp [h]];rw [Bool.eq_iff_iff];simp;omega
theorem zJx {s:L} (e:k<s.length) (h:qV1 0 s=qV1 k (s.drop k)) (H:chk k s[k]=false):name s=false:=by
 unfold name;rw [h,zQi e,H];simp
abbrev Txt:=List UInt8
structure Att where
 name:Txt
 value:Txt
 deriving DecidableEq
structure Nd where
 live:Bool:=false
 tag:Txt:=[]
 text:Txt:=[]
 attrs:List Att:=[]
 up:Int:=0
 kids:List Int:=[]
 hasS:Bool:=false
 shadow:List Int:=[]
 inS:Bool:=false
 deriving DecidableEq
abbrev Dc:=List Nd
def nd (d:Dc) (n:Int):Nd:=d[n.toNat]?.getD {}
theorem qQ2 {d:Dc} (h:k<d.length):nd d (k:Int)=d[k]:=by simp [nd,h]
def isM (d:Dc) (n:Int) (el:Bool):Bool:=decide (0<=n)&&decide (n<(d.length:Int))&&(nd d n).live&&(!el||!(nd d n).tag.isEmpty)
theorem qQy {d:Dc} :isM d n false=true↔∃ k:Nat,∃ h:k<d.length,n=(k:Int)/\d[k].live=true:=by
 constructor
 ·intro h;simp [isM] at h;obtain ⟨⟨g,i⟩,H⟩:=h;refine ⟨n.toNat,by omega,by omega,?_⟩;have:n.toNat<d.length:=by omega
  simpa [nd,this] using H
 ·rintro ⟨k,h,rfl,e⟩;simp [isM,h,qQ2,e]
theorem qZ0 {d:Dc} {e:Bool} (h:isM d n e=true):isM d n false=true:=by
 simp [isM] at h ⊢;exact h.1
def qJc (l:List Att) (name:Txt):Option Txt:=(l.find? (fun a=>a.name==name)).map (·.value)
def qKr (d:Dc) (n:Int) (name:Txt):Option Txt:=if isM d n true then qJc (nd d n).attrs name else none
def pathF (d:Dc):Nat->Int->List Int
 | 0,_=>[]
 | f+1,n=>if isM d n false then n::pathF d f (nd d n).up else []
def qFi (d:Dc) (n:Int):List Int:=pathF d (d.length+1) n
theorem pathF_is {d:Dc} :∀ {f n x},x∈pathF d f n->isM d x false=true:=by
 intro f;induction f with
 | zero=>intro n x h;simp [pathF] at h
 | succ f i=>
   intro n x h;simp only [pathF] at h;split at h
   ·rcases List.mem_cons.1 h with rfl | h
    ·assumption
    ·exact i h
   ·simp at h
def qXl (d:Dc) (n i:Int):Bool:=(qFi d n).contains i
def qQ3 (d:Dc) (n:Int):Int:=(((qFi d n).find? (fun k=>(nd d k).inS&&decide (0<=(nd d k).up))).map (fun k=>(nd d k).up)).getD 0
def allF (d:Dc):Nat->Int->List Int
 | 0,_=>[]
 | f+1,n=>if isM d n false then n::((nd d n).shadow++(nd d n).kids).flatMap (allF d f) else []
def Ends (d:Dc):Nat->Int->Prop
 | 0,_=>False
 | f+1,n=>isM d n false=true->∀ k∈(nd d n).shadow++(nd d n).kids,Ends d f k
theorem Ends.more {d:Dc} :∀ {f n},Ends d f n->Ends d (f+1) n:=by
 intro f;induction f with
 | zero=>intro n h;exact h.elim
 | succ f i=>intro n h H k e;exact i (h H k e)
theorem zGf {d:Dc} :∀ {f n},Ends d f n->allF d (f+1) n=allF d f n:=by
 intro f;induction f with
 | zero=>intro n h;exact h.elim
 | succ f i=>
   intro n h;by_cases H:isM d n false=true
   ·rw [allF,if_pos H,allF,if_pos H];congr 1;have:∀ L:List Int,(∀ k∈L,Ends d f k)->L.flatMap (allF d (f+1))=L.flatMap (allF d f):=by
     intro L;induction L with
     | nil=>intro _;rfl
     | cons a L I=>
       intro e;simp only [List.flatMap_cons];rw [i (e a (by simp)),I (fun k g=>e k (by simp [g]))]
    exact this _ (h H)
   ·rw [allF,if_neg H,allF,if_neg H]
theorem Ends.le {d:Dc} {f g:Nat} (h:Ends d f n) (hg:f<=g):Ends d g n:=by
 induction hg with
 | refl=>exact h
 | step _ i=>exact i.more
def maxL (l:List Nat):Nat:=l.foldl max 0
def deepestF (d:Dc):Nat->Int->Nat
 | 0,_=>0
 | f+1,n=>maxL (((nd d n).shadow++(nd d n).kids).map (fun k=>1+deepestF d f k))
def Grows (d:Dc):Nat->Int->Prop
 | 0,_=>False
 | f+1,n=>isM d n false=true/\∀ k∈(nd d n).shadow++(nd d n).kids,Grows d f k
theorem Grows.ends {d:Dc} :∀ {f n},Grows d f n->Ends d f n:=by
 intro f;induction f with
 | zero=>intro n h;exact h.elim
 | succ f i=>intro n h _ k H;exact i (h.2 k H)
theorem zHd (l:List Nat) (a:Nat):maxL (l++[a])=max (maxL l) a:=by simp [maxL,List.foldl_append]
theorem zFd {l:List Nat} {b:Nat} (h:∀ x∈l,x<=b):maxL l<=b:=by
 have:∀ (l:List Nat) (s:Nat),s<=b->(∀ x∈l,x<=b)->l.foldl max s<=b:=by
  intro l;induction l with
  | nil=>intro s H _;exact H
  | cons a l i=>intro s H e;exact i _ (Nat.max_le.2 ⟨H,e a (by simp)⟩) (fun x g=>e x (by simp [g]))
 exact this l 0 (Nat.zero_le _) h
theorem qDi (d:Dc):∀ f n,deepestF d f n<=f:=by
 intro f;induction f with
 | zero=>intro n;exact Nat.le_refl _
 | succ f i=>intro n;exact zFd (fun x h=>by obtain ⟨k,_,rfl⟩:=List.mem_map.1 h;have:=i k;omega)
theorem zFb {l:List Nat} (h:a∈l):a<=maxL l:=by
 have:∀ (l:List Nat) (s:Nat),s<=l.foldl max s/\∀ a∈l,a<=l.foldl max s:=by
  intro l;induction l with
  | nil=>intro s;simp
  | cons b l i=>
    intro s;obtain ⟨e,g⟩:=i (max s b);refine ⟨Nat.le_trans (Nat.le_max_left _ _) e,fun a H=>?_⟩;rcases List.mem_cons.1 H with rfl | H
    ·exact Nat.le_trans (Nat.le_max_right _ _) e
    ·exact g a H
 exact (this l 0).2 a h
structure Chg where
 kind:Int:=0
 node:Int:=0
 dest:Int:=0
 before:Int:=0
 name:Txt:=[]
 value:Txt:=[]
 deriving DecidableEq
def qZq (d:Dc) (k:Nat) (x:Nd):Dc:=if k=d.length then d++[x] else d.set k x
def qZu (l:List Int) (k:Int):List Int:=l.filter (fun x=>x != k)
def atF (x:Int):List Int->Nat->Int->Int
 | [],_,a=>a
 | y::l,i,a=>atF x l (i+1) (if y=x then (i:Int) else a)
theorem zHk (x:Int):∀ (l:List Int) (i:Nat) (a:Int),atF x l i a=a∨((i:Int)<=atF x l i a/\atF x l i a<i+l.length):=by
 intro l;induction l with
 | nil=>intro i a;simp [atF]
 | cons z l I=>
   intro i a;simp only [atF,List.length_cons];rcases I (i+1) (if z=x then (i:Int) else a) with h | h
   ·rw [h];split
    ·right;omega
    ·left;rfl
   ·right;omega
def qZo (d:Dc) (k:Int):Nat:=deepestF d 100 k
def allM (d:Dc) (k:Int):List Int:=allF d 100 k
def insM (l:List Int) (a:Nat) (k:Int):List Int:=l.take a++[k]++l.drop a
def listM (x:Nd) (sh:Bool):List Int:=if sh then x.shadow else x.kids
def qKw (x:Nd) (sh:Bool) (l:List Int):Nd:=if sh then { x with shadow:=l } else { x with kids:=l }
def qXi (l:List Int) (before:Int):Int:=if 0<=before then atF before l 0 (-1) else l.length
def putD (d:Dc) (k i before:Int) (sh:Bool):Dc:=qZq d i.toNat (qKw (nd d i) sh (insM (listM (nd d i) sh) (qXi (listM (nd d i) sh) before).toNat k))
def putM (d:Dc) (k i before:Int) (sh:Bool):Int×Dc:=
 if qXi (listM (nd d i) sh) before<0 then (8,[])
 else if 12<=(listM (nd d i) sh).length then (5,[])
 else if 16<((qFi (putD d k i before sh) k).length:Int) - 1+qZo (putD d k i before sh) k then (3,[])
 else (0,putD d k i before sh)
def qK3 (d:Dc):Nat:=d.findIdx (fun x=>!x.live)
def qBt (d:Dc) (x:Nd) (i before:Int) (sh:Bool):Int×Int×Dc:=
 if 60<=qK3 d then (5,0,[])
 else
  let r:=putM (qZq d (qK3 d) { x with live:=true,up:=i,inS:=sh }) (qK3 d) i before sh
  (r.1,qK3 d,r.2)
def qZ5 (d:Dc) (k:Int):Dc:=
 qZq d (nd d k).up.toNat { nd d (nd d k).up with kids:=qZu (nd d (nd d k).up).kids k,shadow:=qZu (nd d (nd d k).up).shadow k }
def attStep (name value:Txt) (p:List Att×Bool) (a:Att):List Att×Bool:=
 if a.name=name then (p.1++[⟨a.name,value⟩],true)
 else if !Op.bytesLess a.name name&&!p.2 then (p.1++[⟨name,value⟩,a],true)
 else (p.1++[a],p.2)
def attsF (l:List Att) (name value:Txt):List Att×Bool:=l.foldl (attStep name value) ([],false)
def zBl (l:List Att) (name value:Txt):List Att:=if (attsF l name value).2 then (attsF l name value).1 else (attsF l name value).1++[⟨name,value⟩]
def mainT:Txt:=[109,97,105,110]
def qJr:Txt:=[115,108,111,116]
def qZn (d:Dc) (l:List Int):Dc:=l.foldl (fun d k=>qZq d k.toNat {}) d
def qD4 (d:Dc) (x:Chg):Int×Int×Dc:=
 if x.node=0||!isM d x.dest true then (8,0,[])
 else if qXl d x.dest x.node then (9,0,[])
 else if x.before=x.node then (8,0,[])
 else
  let r:=putM (qZq (qZ5 d x.node) x.node.toNat { nd d x.node with up:=x.dest,inS:=false }) x.node x.dest x.before false
  (r.1,x.node,r.2)
def removeM (d:Dc) (x:Chg):Int×Int×Dc:=
 if x.node=0 then (8,0,[]) else (0,x.node,qZn (qZ5 d x.node) (allM d x.node))
def sayM (d:Dc) (x:Chg):Int×Int×Dc:=
 if !(nd d x.node).tag.isEmpty||60<x.value.length then (8,0,[]) else (0,x.node,qZq d x.node.toNat { nd d x.node with text:=x.value })
def qK1 (d:Dc) (x:Chg):Int×Int×Dc:=
 if !name x.name then (7,0,[])
 else if 60<x.value.length then (4,0,[])
 else if 8<(zBl (nd d x.node).attrs x.name x.value).length then (5,0,[])
 else (0,x.node,qZq d x.node.toNat { nd d x.node with attrs:=zBl (nd d x.node).attrs x.name x.value })
def qGq (d:Dc) (x:Chg):Int×Int×Dc:=
 if (qKr d x.node x.name).isNone then (6,0,[])
 else (0,x.node,qZq d x.node.toNat { nd d x.node with attrs:=(nd d x.node).attrs.filter (fun a=>a.name != x.name) })
def qHz (d:Dc) (x:Chg):Int×Int×Dc:=
 if x.node=0||(nd d x.node).hasS||(nd d x.node).tag==qJr then (8,0,[]) else (0,x.node,qZq d x.node.toNat { nd d x.node with hasS:=true })
def qJh (k:Int):Bool:=k==2||k==10
def qXu (k:Int):Bool:=k==9||k==10
def qZ7 (x:Chg):Nd:=if qJh x.kind then { text:=x.value } else { tag:=x.name }
def qXk (d:Dc) (x:Chg):Int×Int×Dc:=
 if qJh x.kind&&decide (60<x.value.length) then (4,0,[])
 else if !qJh x.kind&&!name x.name then (7,0,[])
 else if qXu x.kind&&!(nd d x.node).hasS then (8,0,[])
 else qBt d (qZ7 x) x.node (if qXu x.kind then -1 else x.before) (qXu x.kind)
def qQ8 (d:Dc) (x:Chg):Int×Int×Dc:=
 if x.kind=3 then qD4 d x
 else if x.kind=4 then removeM d x
 else if x.kind=7 then sayM d x
 else if (nd d x.node).tag.isEmpty then (8,0,[])
 else if x.kind=5 then qK1 d x
 else if x.kind=6 then qGq d x
 else if x.kind=8 then qHz d x
 else qXk d x
def qBn:Dc->Nat->Nat->Nat
 | [],_,a=>a
 | x::d,i,a=>qBn d (i+1) (if x.live&&decide (a<=i) then i+1 else a)
def qYz (d:Dc):Dc:=d.take (qBn d 0 1)
def qQ7 (d:Dc) (x:Chg):Int×Int×Dc:=
 if x.kind<1||10<x.kind then (1,0,[])
 else if !isM d x.node false then (6,0,[])
 else if (qQ8 d x).1=0 then (0,(qQ8 d x).2.1,qYz (qQ8 d x).2.2) else ((qQ8 d x).1,0,[])
def rootD:Dc:=[{ live:=true,tag:=mainT,up:=-1 }]
def zQm (d:Dc) (x:Chg):Dc:=if (qQ7 d x).1=0 then (qQ7 d x).2.2 else d
def buildM (l:List Chg):Dc:=l.foldl zQm rootD
theorem qKi {d:Dc} {x:Nd} :(qZq d k x).length=if k=d.length then d.length+1 else d.length:=by
 unfold qZq;split <;> simp
theorem qBj {d:Dc} {x:Nd} (g:k<=d.length) (n:Int):nd (qZq d k x) n=if n.toNat=k then x else nd d n:=by
 unfold nd qZq;by_cases e:k=d.length
 ·subst e;simp only [if_true];by_cases h:n.toNat=d.length
  ·rw [if_pos h,h,List.getElem?_append_right (Nat.le_refl _)];simp
  ·rw [if_neg h];by_cases H:n.toNat<d.length
   ·rw [List.getElem?_append_left H]
   ·rw [List.getElem?_eq_none (by simp;omega),List.getElem?_eq_none (by omega)]
 ·rw [if_neg e];by_cases h:n.toNat=k
  ·rw [if_pos h,h,List.getElem?_set_self (by omega)];rfl
  ·rw [if_neg h,List.getElem?_set_ne (by omega)]
theorem qQh {d:Dc} :isM d n false=true↔0<=n/\(nd d n).live=true:=by
 unfold isM nd;constructor
 ·intro h;simp at h;exact ⟨h.1.1,by simpa using h.2⟩
 ·rintro ⟨e,H⟩;have:n.toNat<d.length:=by
   rcases Nat.lt_or_ge n.toNat d.length with h | h
   ·exact h
   ·rw [List.getElem?_eq_none h] at H;simp at H
  simp [e,H];omega
theorem qJq {d:Dc} (h:isM d n false=true):n.toNat<d.length/\(n.toNat:Int)=n:=by
 simp [isM] at h;omega
theorem qJe {d:Dc} :isM d n true=true↔isM d n false=true/\(nd d n).tag≠[]:=by
 simp [isM]
def qJa (d:Dc) (n:Int) (sh:Bool):List Int:=listM (nd d n) sh
def Rising:List Att->Prop:=List.Pairwise (fun a b=>Op.bytesLess a.name b.name=true)
structure NdOk (x:Nd):Prop where
 few:∀ sh,(listM x sh).length<=12
 once:∀ sh,(listM x sh).Nodup
 text:x.tag=[]->x.kids=[]/\x.shadow=[]/\x.attrs=[]/\x.hasS=false
 hs:x.hasS=false->x.shadow=[]
 slot:x.tag=qJr->x.hasS=false
 rising:Rising x.attrs
 few8:x.attrs.length<=8
 atts:∀ a∈x.attrs,a.name.length<=20/\a.value.length<=60
 short:x.text.length<=60/\x.tag.length<=20
theorem NdOk.blank:NdOk {}:=by
 refine ⟨?_,?_,?_,?_,?_,?_,?_,?_,?_⟩ <;> simp [listM,Rising]
structure G0 (free:Int->Prop) (R:Nat) (r:Int->Nat) (d:Dc):Prop where
 root:(nd d 0).live=true/\(nd d 0).tag=mainT/\(nd d 0).up = -1/\(nd d 0).hasS=false/\(nd d 0).inS=false
 up:∀ n,isM d n false=true->n≠0->¬ free n->isM d (nd d n).up true=true/\n∈qJa d (nd d n).up (nd d n).inS
 kid:∀ n sh k,isM d n false=true->k∈qJa d n sh->isM d k false=true/\(nd d k).up=n/\(nd d k).inS=sh/\k≠0/\¬ free k
 ok:∀ n,NdOk (nd d n)
 blank:∀ n,(nd d n).live=false->nd d n={}
 rank:∀ n,isM d n false=true->r n<=R/\(n≠0->¬ free n->r n=r (nd d n).up+1)
 rank0:r 0=0
def qQk:Int->Prop:=fun _=>False
structure Good (d:Dc):Prop where
 len:d.length<=60
 tree:∃ r,G0 qQk 16 r d
 last:d.length=1∨isM d ((d.length:Int) - 1) false=true
inductive Und (d:Dc) (n:Int):Int->Prop
 | here:isM d n false=true->Und d n n
 | step {x:Int}:isM d x false=true->x≠0->Und d n (nd d x).up->Und d n x
theorem Und.is {d:Dc} (h:Und d n x):isM d x false=true:=by cases h <;> assumption
theorem Und.top {d:Dc} (h:Und d n x):isM d n false=true:=by induction h with | here h=>exact h | step _ _ _ i=>exact i
theorem Und.trans {d:Dc} {a c:Int} (h:Und d b c) (k:Und d a b):Und d a c:=by
 induction h with
 | here _=>exact k
 | step H e _ i=>exact .step H e i
theorem Und.down {d:Dc} (h:Und d n x):x=n∨∃ k,isM d k false=true/\k≠0/\(nd d k).up=n/\Und d k x:=by
 induction h with
 | here _=>exact .inl rfl
 | @step x H g _ i=>
   right;rcases i with i | ⟨k,a,b,c,e⟩
   ·exact ⟨x,H,g,i,.here H⟩
   ·exact ⟨k,a,b,c,.step H g e⟩
section
variable {d:Dc} {free:Int->Prop} {R:Nat} {r:Int->Nat}
theorem G0.is0 (g:G0 free R r d):isM d 0 false=true:=qQh.2 ⟨by omega,g.root.1⟩
theorem G0.is0e (g:G0 free R r d):isM d 0 true=true:=qJe.2 ⟨g.is0,by rw [g.root.2.1];decide⟩
theorem G0.pos (g:G0 free R r d):0<d.length:=by have:=(qJq g.is0).1;omega
theorem G0.upIs (g:G0 free R r d) (h:isM d n false=true) (H:n≠0) (e:¬ free n):isM d (nd d n).up false=true:=qZ0 (g.up n h H e).1
theorem Und.le (g:G0 qQk R r d) (h:Und d n x):r n<=r x:=by
 induction h with
 | here _=>exact Nat.le_refl _
 | step H e _ i=>have:=(g.rank _ H).2 e (fun h=>h);omega
theorem Und.root (g:G0 qQk R r d) (h:isM d x false=true):Und d 0 x:=by
 have:∀ m x,isM d x false=true->r x=m->Und d 0 x:=by
  intro m;induction m with
  | zero=>
    intro x e i;by_cases H:x=0
    ·subst H;exact .here e
    ·have:=(g.rank x e).2 H (fun h=>h);omega
  | succ m I=>
    intro x e i;by_cases H:x=0
    ·subst H;exact .here e
    ·have j:=(g.rank x e).2 H (fun h=>h);exact .step e H (I _ (g.upIs e H (fun h=>h)) (by omega))
 exact this _ x h rfl
theorem qDt (g:G0 free R r d):isM d (nd d 0).up false=false:=by rw [g.root.2.2.1];rfl
theorem zV5 (g:G0 qQk R r d):∀ f n,isM d n false=true->r n<f->(pathF d f n).length=r n+1:=by
 intro f;induction f with
 | zero=>intro n _ h;omega
 | succ f i=>
   intro n h j;rw [pathF,if_pos h];by_cases H:n=0
   ·subst H;have:pathF d f (nd d 0).up=[]:=(by cases f <;> simp [pathF,qDt g]);rw [this,g.rank0];rfl
   ·have e:=(g.rank n h).2 H (fun h=>h);simp only [List.length_cons];rw [i _ (g.upIs h H (fun h=>h)) (by omega)];omega
theorem zF8 (g:G0 qQk R r d):∀ f n x,x∈pathF d f n->r x<=r n:=by
 intro f;induction f with
 | zero=>intro n x h;simp [pathF] at h
 | succ f I=>
   intro n x h;rw [pathF] at h;split at h
   ·rename_i i;rcases List.mem_cons.1 h with rfl | h
    ·exact Nat.le_refl _
    ·by_cases H:n=0
     ·subst H;have:pathF d f (nd d 0).up=[]:=(by cases f <;> simp [pathF,qDt g]);rw [this] at h;simp at h
     ·have e:=(g.rank n i).2 H (fun h=>h);have:=I _ _ h;omega
   ·simp at h
theorem zBb (g:G0 qQk R r d):∀ f n,(pathF d f n).Nodup:=by
 intro f;induction f with
 | zero=>intro n;simp [pathF]
 | succ f I=>
   intro n;rw [pathF];split
   ·rename_i i;refine List.nodup_cons.2 ⟨fun h=>?_,I _⟩;by_cases H:n=0
    ·subst H;have:pathF d f (nd d 0).up=[]:=(by cases f <;> simp [pathF,qDt g]);rw [this] at h;simp at h
    ·have e:=(g.rank n i).2 H (fun h=>h);have:=zF8 g _ _ _ h;omega
   ·simp
end
theorem qK7:∀ (N:Nat) (l:List Int),l.Nodup->(∀ x∈l,0<=x/\x<N)->l.length<=N:=by
 intro N;induction N with
 | zero=>intro l _ h;cases l with | nil=>simp | cons a l=>have:=h a (by simp);omega
 | succ N I=>
   intro l g h;have j:=I (l.filter (fun x=>x != (N:Int))) (g.filter _) (fun x H=>by
    simp at H;have:=h x H.1;omega)
   have p:l.length<=(l.filter (fun x=>x != (N:Int))).length+1:=by
    clear I h j;induction l with
    | nil=>simp
    | cons a l m=>
      have i:=List.nodup_cons.1 g;by_cases e:a=(N:Int)
      ·have:l.filter (fun x=>x != (N:Int))=l:=List.filter_eq_self.2 (fun x H=>by
        simp;rintro rfl;exact i.1 (e▸H))
       simp [e,this]
      ·have:=m i.2;simp [e];omega
   omega
section
variable {d:Dc} {R:Nat} {r:Int->Nat}
theorem zJh (g:G0 qQk R r d) (h:isM d n false=true):r n<d.length:=by
 have e:=zV5 g (r n+1) n h (by omega);have i:=qK7 d.length _ (zBb g (r n+1) n) (fun x H=>by have:=qJq (pathF_is H);omega);omega
theorem qGg (g:G0 qQk R r d) (h:isM d n false=true):(qFi d n).length=r n+1:=
 zV5 g _ n h (by have:=zJh g h;omega)
theorem mem_path (g:G0 qQk R r d):∀ f n x,isM d n false=true->r n<f->(x∈pathF d f n↔Und d x n):=by
 intro f;induction f with
 | zero=>intro n x _ h;omega
 | succ f I=>
   intro n x h m;rw [pathF,if_pos h,List.mem_cons];by_cases H:n=0
   ·subst H;have:pathF d f (nd d 0).up=[]:=(by cases f <;> simp [pathF,qDt g]);rw [this];constructor
    ·rintro (rfl | h');· exact .here h
     ·simp at h'
    ·intro u;cases u with
     | here _=>left;rfl
     | step _ e _=>exact absurd rfl e
   ·have j:=(g.rank n h).2 H (fun h=>h);rw [I _ x (g.upIs h H (fun h=>h)) (by omega)];constructor
    ·rintro (rfl | h')
     ·exact .here h
     ·exact .step h H h'
    ·intro u;cases u with
     | here _=>left;rfl
     | step _ _ i=>right;exact i
theorem zZl (g:G0 qQk R r d) (h:isM d n false=true):qXl d n x=true↔Und d x n:=by
 unfold qXl qFi;rw [List.contains_iff_mem];exact mem_path g _ n x h (by have:=zJh g h;omega)
theorem qZ9 (g:G0 qQk R r d) {k:Int} (h:isM d n false=true):k∈(nd d n).shadow++(nd d n).kids↔isM d k false=true/\k≠0/\(nd d k).up=n:=by
 constructor
 ·intro H;rcases List.mem_append.1 H with H | H
  ·have:=g.kid n true k h H;exact ⟨this.1,this.2.2.2.1,this.2.1⟩
  ·have:=g.kid n false k h H;exact ⟨this.1,this.2.2.2.1,this.2.1⟩
 ·rintro ⟨e,i,rfl⟩;have:=(g.up k e i (fun h=>h)).2;unfold qJa listM at this;split at this
  ·exact List.mem_append_left _ this
  ·exact List.mem_append_right _ this
theorem grows (g:G0 qQk R r d):∀ f n,isM d n false=true->R<r n+f->Grows d f n:=by
 intro f;induction f with
 | zero=>intro n h j;have:=(g.rank n h).1;omega
 | succ f I=>
   intro n h j;refine ⟨h,fun k m=>?_⟩;obtain ⟨H,e,i⟩:=(qZ9 g h).1 m;have:=(g.rank k H).2 e (fun h=>h);rw [i] at this;exact I k H (by omega)
theorem qXx (g:G0 qQk R r d):∀ f n x,isM d n false=true->R<r n+f->(x∈allF d f n↔Und d n x):=by
 intro f;induction f with
 | zero=>intro n x h m;have:=(g.rank n h).1;omega
 | succ f I=>
   intro n x h m;rw [allF,if_pos h,List.mem_cons,List.mem_flatMap];constructor
   ·rintro (rfl | ⟨k,hk,hx⟩)
    ·exact .here h
    ·obtain ⟨H,e,i⟩:=(qZ9 g h).1 hk;have:=(g.rank k H).2 e (fun h=>h);rw [i] at this;have u:=(I k x H (by omega)).1 hx;refine u.trans (.step H e ?_);rw [i];exact .here h
   ·intro u;rcases u.down with rfl | ⟨k,H,e,i,j⟩
    ·left;rfl
    ·right;have:=(g.rank k H).2 e (fun h=>h);rw [i] at this;exact ⟨k,(qZ9 g h).2 ⟨H,e,i⟩,(I k x H (by omega)).2 j⟩
theorem qGo (g:G0 qQk R r d):∀ f n x,isM d n false=true->R<r n+f->Und d n x->r x<=r n+deepestF d f n:=by
 intro f;induction f with
 | zero=>intro n x h p;have:=(g.rank n h).1;omega
 | succ f I=>
   intro n x h p u;rcases u.down with rfl | ⟨k,H,e,i,j⟩
   ·omega
   ·have m:=(g.rank k H).2 e (fun h=>h);rw [i] at m;have q:=I k x H (by omega) j;have s:1+deepestF d f k<=deepestF d (f+1) n:=zFb (List.mem_map.2 ⟨k,(qZ9 g h).2 ⟨H,e,i⟩,rfl⟩);omega
end
theorem nd_neg {d:Dc} (h:n<0):nd d n=nd d 0:=by
 unfold nd;rw [show n.toNat=(0:Int).toNat by omega]
theorem qVl {d:Dc} {P:Nd->Prop} (h:∀ n,0<=n->P (nd d n)) (n:Int):P (nd d n):=by
 by_cases c:0<=n
 ·exact h n c
 ·rw [nd_neg (by omega)];exact h 0 (by omega)
theorem zJ0 {d d':Dc} (h:∀ n,0<=n->(nd d' n).live=(nd d n).live) (n:Int):isM d' n false=true↔isM d n false=true:=by
 rw [qQh,qQh];constructor
 ·rintro ⟨a,b⟩;exact ⟨a,by rw [<- h n a];exact b⟩
 ·rintro ⟨a,b⟩;exact ⟨a,by rw [h n a];exact b⟩
theorem toNat_inj {a:Int} (ha:0<=a) (H:0<=b) (h:a.toNat=b.toNat):a=b:=by omega
section
variable {d d':Dc} {free:Int->Prop} {R:Nat} {r:Int->Nat}
theorem G0.same (g:G0 free R r d) (h:∀ n,0<=n->(nd d' n).live=(nd d n).live/\(nd d' n).up=(nd d n).up/\(nd d' n).inS=(nd d n).inS/\(nd d' n).kids=(nd d n).kids/\(nd d' n).shadow=(nd d n).shadow/\((nd d' n).tag=(nd d n).tag))
 (A:(nd d' 0).hasS=false) (z:∀ n,0<=n->NdOk (nd d' n)) (u:∀ n,0<=n->(nd d' n).live=false->nd d' n={}):G0 free R r d':=by
 have m:∀ n,isM d' n false=true↔isM d n false=true:=zJ0 (fun n H=>(h n H).1);have s:∀ n sh,0<=n->qJa d' n sh=qJa d n sh:=by
  intro n sh H;unfold qJa listM;rw [(h n H).2.2.2.1,(h n H).2.2.2.2.1]
 have y:∀ n,isM d n true=true->isM d' n true=true:=by
  intro n H;obtain ⟨a,b⟩:=qJe.1 H;exact qJe.2 ⟨(m n).2 a,by rw [(h n (qQh.1 a).1).2.2.2.2.2];exact b⟩
 refine ⟨?_,?_,?_,qVl z,?_,?_,g.rank0⟩
 ·have j:=h 0 (by omega);rw [j.1,j.2.2.2.2.2,j.2.1,j.2.2.1];exact ⟨g.root.1,g.root.2.1,g.root.2.2.1,A,g.root.2.2.2.2⟩
 ·intro n H j w;have i:=(m n).1 H;have p:=(qQh.1 i).1;obtain ⟨a,b⟩:=g.up n i j w;rw [(h n p).2.1,(h n p).2.2.1,s _ _ (qQh.1 (qZ0 a)).1];exact ⟨y _ a,b⟩
 ·intro n sh k H q;have i:=(m n).1 H;rw [s _ _ (qQh.1 i).1] at q;obtain ⟨a,b,c,e,f⟩:=g.kid n sh k i q;have p:=(qQh.1 a).1;exact ⟨(m k).2 a,by rw [(h k p).2.1];exact b,by rw [(h k p).2.2.1];exact c,e,f⟩
 ·intro n;exact qVl (P:=fun x=>x.live=false->x={}) u n
 ·intro n H;have i:=(m n).1 H;rw [(h n (qQh.1 i).1).2.1];exact g.rank n i
theorem G0.tweak (g:G0 free R r d) {k:Int} (i:isM d k false=true) {x:Nd} (m:x.live=true) (A:x.up=(nd d k).up) (w:x.inS=(nd d k).inS) (q:x.kids=(nd d k).kids) (y:x.shadow=(nd d k).shadow) (z:x.tag=(nd d k).tag)
 (p:k=0->x.hasS=false) (B:NdOk x):G0 free R r (qZq d k.toNat x):=by
 have s:=qJq i;have H:=fun n=>qBj (x:=x) (Nat.le_of_lt s.1) n;have j:=(qQh.1 i).1;refine g.same ?_ ?_ ?_ ?_
 ·intro n u;rw [H n];split
  ·rename_i e;obtain rfl:=toNat_inj u j e;exact ⟨by rw [m,(qQh.1 i).2],A,w,q,y,z⟩
  ·exact ⟨rfl,rfl,rfl,rfl,rfl,rfl⟩
 ·rw [H 0];split
  ·rename_i e;exact p (toNat_inj (by omega) j e).symm
  ·exact g.root.2.2.2.1
 ·intro n _;rw [H n];split
  ·exact B
  ·exact g.ok n
 ·intro n _;rw [H n];split
  ·intro h;rw [m] at h;simp at h
  ·exact g.blank n
def cutM (x:Nd) (k:Int):Nd:={ x with kids:=qZu x.kids k,shadow:=qZu x.shadow k }
theorem qFe (x:Nd) (k:Int) (sh:Bool):listM (cutM x k) sh=qZu (listM x sh) k:=by cases sh <;> rfl
theorem cut_ok {x:Nd} (h:NdOk x) (k:Int):NdOk (cutM x k):=by
 refine ⟨fun sh=>?_,fun sh=>?_,fun g=>?_,fun H=>?_,h.slot,h.rising,h.few8,h.atts,h.short⟩
 ·rw [qFe];exact Nat.le_trans (List.length_filter_le _ _) (h.few sh)
 ·rw [qFe];exact (h.once sh).filter _
 ·obtain ⟨a,b,c,e⟩:=h.text g;exact ⟨by simp [cutM,a,qZu],by simp [cutM,b,qZu],c,e⟩
 ·simp [cutM,h.hs H,qZu]
theorem qK0 {k:Int} :x∈qZu l k↔x∈l/\x≠k:=by simp [qZu]
theorem G0.removed (g:G0 qQk R r d) (A:isM d n false=true) (y:n≠0) (z:∀ m,Und d n m->nd d' m={}) (Q:nd d' (nd d n).up=cutM (nd d (nd d n).up) n)
 (S:∀ m,0<=m->¬ Und d n m->m≠(nd d n).up->nd d' m=nd d m):G0 qQk R r d':=by
 have T:isM d (nd d n).up true=true:=(g.up n A y (fun h=>h)).1;have V:¬ Und d n (nd d n).up:=by
  intro h;have a:=h.le g;have b:=(g.rank n A).2 y (fun h=>h);omega
 have P:¬ Und d n 0:=by
  intro h;have a:=h.le g;have b:=(g.rank n A).2 y (fun h=>h);rw [g.rank0] at a;omega
 have q:∀ m,0<=m->¬ Und d n m->nd d' m=if m=(nd d n).up then cutM (nd d m) n else nd d m:=by
  intro m H u;split
  ·rename_i e;subst e;exact Q
  ·rename_i e;exact S m H u e
 have j:∀ m,isM d' m false=true↔isM d m false=true/\¬ Und d n m:=by
  intro m;rw [qQh,qQh];by_cases u:Und d n m
  ·rw [z m u];simp [u]
  ·by_cases H:0<=m
   ·rw [q m H u];split <;> simp [u,cutM]
   ·simp [H]
 have J:∀ m sh,0<=m->¬ Und d n m->qJa d' m sh=if m=(nd d n).up then qZu (qJa d m sh) n else qJa d m sh:=by
  intro m sh H u;unfold qJa;rw [q m H u];split
  ·rw [qFe]
  ·rfl
 have i:∀ m,0<=m->¬ Und d n m->(nd d' m).up=(nd d m).up/\(nd d' m).inS=(nd d m).inS/\(nd d' m).tag=(nd d m).tag/\(nd d' m).live=(nd d m).live/\(nd d' m).hasS=(nd d m).hasS:=by
  intro m H u;rw [q m H u];split <;> exact ⟨rfl,rfl,rfl,rfl,rfl⟩
 refine ⟨?_,?_,?_,?_,?_,?_,g.rank0⟩
 ·obtain ⟨a,b,c,e,f⟩:=i 0 (by omega) P;rw [a,b,c,e,f];exact g.root
 ·intro m H K _;obtain ⟨a,b⟩:=(j m).1 H;have B:=(qQh.1 a).1;obtain ⟨U,O⟩:=g.up m a K (fun h=>h);obtain ⟨F,w,-⟩:=i m B b;have D:¬ Und d n (nd d m).up:=fun h=>b (.step a K h);have M:=(qQh.1 (qZ0 U)).1;rw [F,w];refine ⟨qJe.2 ⟨(j _).2 ⟨qZ0 U,D⟩,?_⟩,?_⟩
  ·rw [(i _ M D).2.2.1];exact (qJe.1 U).2
  ·rw [J _ _ M D];split
   ·exact qK0.2 ⟨O,by rintro rfl;exact b (.here a)⟩
   ·exact O
 ·intro m sh k H p;obtain ⟨a,b⟩:=(j m).1 H;have B:=(qQh.1 a).1;rw [J m sh B b] at p;have G:k∈qJa d m sh/\(m=(nd d n).up->k≠n):=by
   split at p
   ·exact ⟨(qK0.1 p).1,fun _=>(qK0.1 p).2⟩
   ·rename_i e;exact ⟨p,fun h=>absurd h e⟩
  obtain ⟨E,s,c3,c4,-⟩:=g.kid m sh k a G.1;have I:¬ Und d n k:=by
   intro h;cases h with
   | here _=>exact G.2 s.symm rfl
   | step _ _ h=>rw [s] at h;exact b h
  obtain ⟨F,w,-⟩:=i k (qQh.1 E).1 I;exact ⟨(j k).2 ⟨E,I⟩,by rw [F];exact s,by rw [w];exact c3,c4,fun h=>h⟩
 ·refine qVl (fun m H=>?_);by_cases u:Und d n m
  ·rw [z m u];exact NdOk.blank
  ·rw [q m H u];split
   ·exact cut_ok (g.ok m) n
   ·exact g.ok m
 ·intro m;refine qVl (P:=fun x=>x.live=false->x={}) (fun m H=>?_) m;by_cases u:Und d n m
  ·rw [z m u];intro _;rfl
  ·intro h;rw [(i m H u).2.2.2.1] at h;rw [q m H u];split
   ·rename_i e;rw [e,(qQh.1 (qZ0 T)).2] at h;simp at h
   ·exact g.blank m h
 ·intro m H;obtain ⟨a,b⟩:=(j m).1 H;rw [(i m (qQh.1 a).1 b).1];exact g.rank m a
theorem G0.loosed (g:G0 qQk R r d) (s:isM d n false=true) (D:n≠0) {x:Nd} (Z:x.live=true) (a2:x.tag=(nd d n).tag) (Y:x.kids=(nd d n).kids) (a1:x.shadow=(nd d n).shadow) (a0:NdOk x)
 (p:nd d' n=x) (E:nd d' (nd d n).up=cutM (nd d (nd d n).up) n) (S:∀ m,0<=m->m≠n->m≠(nd d n).up->nd d' m=nd d m):G0 (·=n) R r d'/\∀ z,Und d' n z->Und d n z:=by
 have W:isM d (nd d n).up true=true:=(g.up n s D (fun h=>h)).1;have a3:=(qQh.1 s).1;have V:(nd d n).up≠n:=by
  intro h;have b:=(g.rank n s).2 D (fun h=>h);rw [h] at b;omega
 have y:∀ m,0<=m->m≠n->nd d' m=if m=(nd d n).up then cutM (nd d m) n else nd d m:=by
  intro m H X;split
  ·rename_i e;subst e;exact E
  ·rename_i e;exact S m H X e
 have i:∀ m,0<=m->(nd d' m).tag=(nd d m).tag/\(nd d' m).live=(nd d m).live/\(m≠n->(nd d' m).up=(nd d m).up/\(nd d' m).inS=(nd d m).inS/\(nd d' m).hasS=(nd d m).hasS):=by
  intro m H;by_cases e:m=n
  ·subst e;rw [p];exact ⟨a2,by rw [Z,(qQh.1 s).2],fun h=>absurd rfl h⟩
  ·rw [y m H e];split <;> exact ⟨rfl,rfl,fun _=>⟨rfl,rfl,rfl⟩⟩
 have j:∀ m,isM d' m false=true↔isM d m false=true:=zJ0 (fun m H=>(i m H).2.1);have K:∀ m sh,0<=m->qJa d' m sh=if m=(nd d n).up then qZu (qJa d m sh) n else qJa d m sh:=by
  intro m sh H;unfold qJa;by_cases e:m=n
  ·subst e;rw [p,if_neg (fun h=>V h.symm)];unfold listM;rw [Y,a1]
  ·rw [y m H e];split
   ·rw [qFe]
   ·rfl
 refine ⟨⟨?_,?_,?_,?_,?_,?_,g.rank0⟩,?_⟩
 ·obtain ⟨a,b,c⟩:=i 0 (by omega);obtain ⟨u,w,c3⟩:=c (fun h=>D h.symm);rw [a,b,u,w,c3];exact g.root
 ·intro m H T M;have a:=(j m).1 H;have G:=(qQh.1 a).1;obtain ⟨U,Q⟩:=g.up m a T (fun h=>h);obtain ⟨-,-,f⟩:=i m G;obtain ⟨F,B,-⟩:=f M;have O:=(qQh.1 (qZ0 U)).1;rw [F,B];refine ⟨qJe.2 ⟨(j _).2 (qZ0 U),?_⟩,?_⟩
  ·rw [(i _ O).1];exact (qJe.1 U).2
  ·rw [K _ _ O];split
   ·exact qK0.2 ⟨Q,M⟩
   ·exact Q
 ·intro m sh k H q;have a:=(j m).1 H;have G:=(qQh.1 a).1;rw [K m sh G] at q;have I:k∈qJa d m sh/\(m=(nd d n).up->k≠n):=by
   split at q
   ·exact ⟨(qK0.1 q).1,fun _=>(qK0.1 q).2⟩
   ·rename_i e;exact ⟨q,fun h=>absurd h e⟩
  obtain ⟨u,w,c3,c4,-⟩:=g.kid m sh k a I.1;have J:k≠n:=by
   rintro rfl;exact I.2 w.symm rfl
  obtain ⟨-,-,f⟩:=i k (qQh.1 u).1;obtain ⟨F,B,-⟩:=f J;exact ⟨(j k).2 u,by rw [F];exact w,by rw [B];exact c3,c4,J⟩
 ·refine qVl (fun m H=>?_);by_cases e:m=n
  ·subst e;rw [p];exact a0
  ·rw [y m H e];split
   ·exact cut_ok (g.ok m) n
   ·exact g.ok m
 ·intro m;refine qVl (P:=fun x=>x.live=false->x={}) (fun m H=>?_) m;intro h;rw [(i m H).2.1] at h;by_cases e:m=n
  ·subst e;rw [(qQh.1 s).2] at h;simp at h
  ·rw [y m H e];split
   ·rename_i e;rw [e,(qQh.1 (qZ0 W)).2] at h;simp at h
   ·exact g.blank m h
 ·intro m H;have a:=(j m).1 H;refine ⟨(g.rank m a).1,fun p E=>?_⟩;rw [((i m (qQh.1 a).1).2.2 E).1];exact (g.rank m a).2 p (fun h=>h)
 ·intro z hz;induction hz with
  | here h=>exact .here ((j _).1 h)
  | @step z a b _ P=>
    have A:=(j _).1 a;by_cases e:z=n
    ·subst e;exact .here A
    ·rw [((i z (qQh.1 A).1).2.2 e).1] at P;exact .step A b P
theorem G0.born (g:G0 qQk R r d) (J:0<=n) (hd:nd d n={}) {x:Nd} (E:x.live=true) (K:x.kids=[]) (O:x.shadow=[]) (M:NdOk x) (P:isM d x.up false=true)
 (j:nd d' n=x) (u:∀ m,0<=m->m≠n->nd d' m=nd d m):G0 (·=n) R (fun z=>if z=n then 0 else r z) d'/\∀ z,Und d' n z->z=n:=by
 have w:¬ isM d n false=true:=by rw [qQh,hd];simp
 have A:n≠0:=by rintro rfl;exact w g.is0
 have p:∀ m,isM d' m false=true↔isM d m false=true∨m=n:=by
  intro m;rw [qQh,qQh];by_cases e:m=n
  ·subst e;rw [j];simp [E,J]
  ·by_cases H:0<=m
   ·rw [u m H e];simp [e]
   ·simp [H,e]
 have y:∀ m,isM d m false=true->m≠n:=by rintro m h rfl;exact w h
 have i:∀ m,isM d m false=true->nd d' m=nd d m:=fun m h=>u m (qQh.1 h).1 (y m h);have D:∀ m,isM d m false=true->m≠0->isM d (nd d m).up false=true:=fun m h A=>g.upIs h A (fun h=>h);refine ⟨⟨?_,?_,?_,?_,?_,?_,?_⟩,?_⟩
 ·rw [i 0 g.is0];exact g.root
 ·intro m H G I;have a:=((p m).1 H).resolve_right I;obtain ⟨U,S⟩:=g.up m a G (fun h=>h);rw [i m a];refine ⟨qJe.2 ⟨(p _).2 (.inl (qZ0 U)),?_⟩,?_⟩
  ·rw [i _ (qZ0 U)];exact (qJe.1 U).2
  ·unfold qJa;rw [i _ (qZ0 U)];exact S
 ·intro m sh k H q;rcases (p m).1 H with a | rfl
  ·unfold qJa at q;rw [i m a] at q;obtain ⟨s,F,c3,c4,-⟩:=g.kid m sh k a q;exact ⟨(p k).2 (.inl s),by rw [i k s];exact F,by rw [i k s];exact c3,c4,y k s⟩
  ·unfold qJa listM at q;rw [j,K,O] at q;cases sh <;> simp at q
 ·refine qVl (fun m H=>?_);by_cases e:m=n
  ·subst e;rw [j];exact M
  ·rw [u m H e];exact g.ok m
 ·intro m;refine qVl (P:=fun x=>x.live=false->x={}) (fun m H=>?_) m;by_cases e:m=n
  ·subst e;rw [j,E];simp
  ·rw [u m H e];exact g.blank m
 ·intro m H;rcases (p m).1 H with a | rfl
  ·have B:=y m a;refine ⟨by simp only [B,if_false];exact (g.rank m a).1,fun j T=>?_⟩;rw [i m a];simp only [B,y _ (D m a j),if_false];exact (g.rank m a).2 j (fun h=>h)
  ·exact ⟨by simp,fun _ h=>absurd rfl h⟩
 ·show (if (0:Int)=n then 0 else r 0)=0;rw [if_neg (fun h=>A h.symm)];exact g.rank0
 ·intro z Q;rcases Q.down with h | ⟨k,a,b,c,-⟩
  ·exact h
  ·exfalso;rcases (p k).1 a with a | rfl
   ·rw [i k a] at c;exact w (c▸D k a b)
   ·rw [j] at c;exact w (c▸P)
theorem Und.congr (H:∀ m,isM d' m false=true↔isM d m false=true) (u:∀ m,isM d m false=true->(nd d' m).up=(nd d m).up) {z:Int} :Und d' n z↔Und d n z:=by
 constructor
 ·intro h;induction h with
  | here h=>exact .here ((H _).1 h)
  | step a b _ i=>have A:=(H _).1 a;rw [u _ A] at i;exact .step A b i
 ·intro h;induction h with
  | here h=>exact .here ((H _).2 h)
  | step a b _ i=>refine .step ((H _).2 a) b ?_;rw [u _ a];exact i
theorem zY4 {k:Int} :x∈insM l a k↔x=k∨x∈l:=by
 unfold insM;have:x∈l↔x∈l.take a∨x∈l.drop a:=by rw [<- List.mem_append,List.take_append_drop]
 simp only [List.mem_append,List.mem_singleton,this];constructor
 ·rintro ((h | h) | h)
  ·exact .inr (.inl h)
  ·exact .inl h
  ·exact .inr (.inr h)
 ·rintro (h | h | h)
  ·exact .inl (.inr h)
  ·exact .inl (.inl h)
  ·exact .inr h
theorem zHo {k:Int} (h:l.Nodup) (H:k∉l):(insM l a k).Nodup:=by
 unfold insM;rw [List.append_assoc,List.singleton_append,List.perm_middle.nodup_iff];refine List.nodup_cons.2 ⟨?_,?_⟩
 ·rw [List.take_append_drop];exact H
 ·rw [List.take_append_drop];exact h
theorem zBj {k:Int} :(insM l a k).length=l.length+1:=by
 unfold insM;simp;omega
theorem qWe (x:Nd) (sh s:Bool) (l:List Int):listM (qKw x sh l) s=if s=sh then l else listM x s:=by
 cases sh <;> cases s <;> rfl
theorem qWb (x:Nd) (sh:Bool) (l:List Int):(qKw x sh l).live=x.live/\(qKw x sh l).tag=x.tag/\(qKw x sh l).text=x.text/\(qKw x sh l).attrs=x.attrs/\(qKw x sh l).up=x.up/\(qKw x sh l).hasS=x.hasS/\(qKw x sh l).inS=x.inS:=by
 cases sh <;> exact ⟨rfl,rfl,rfl,rfl,rfl,rfl,rfl⟩
open Classical in
theorem G0.attach {k t:Int} {sh:Bool} (g:G0 (·=k) R r d) (hk:isM d k false=true) (a0:k≠0) (Z:(nd d k).up=t) (hs:(nd d k).inS=sh) (F:isM d t true=true) (a5:sh=true->(nd d t).hasS=true)
 (aa:(listM (nd d t) sh).length<12) (a9:¬ Und d k t)
 (W:nd d' t=qKw (nd d t) sh (insM (listM (nd d t) sh) a k)) (p:∀ m,0<=m->m≠t->nd d' m=nd d m) :
 G0 qQk (2*R+1) (fun z=>if Und d k z then r z - r k+r t+1 else r z) d'/\(∀ m,isM d' m false=true↔isM d m false=true)/\(∀ z,Und d' k z↔Und d k z):=by
 have a6:=(qQh.1 (qZ0 F)).1;have u:∀ m,0<=m->(nd d' m).live=(nd d m).live/\(nd d' m).tag=(nd d m).tag/\(nd d' m).up=(nd d m).up/\(nd d' m).inS=(nd d m).inS/\(nd d' m).hasS=(nd d m).hasS:=by
  intro m H;by_cases e:m=t
  ·subst e;obtain ⟨J,A,K,y,M,O,a7⟩:=qWb (nd d m) sh (insM (listM (nd d m) sh) a k);rw [W];exact ⟨J,A,M,a7,O⟩
  ·rw [p m H e];exact ⟨rfl,rfl,rfl,rfl,rfl⟩
 have w:∀ m,isM d' m false=true↔isM d m false=true:=zJ0 (fun m H=>(u m H).1);have a2:∀ m,isM d m false=true->(nd d' m).up=(nd d m).up:=fun m h=>(u m (qQh.1 h).1).2.2.1;have a8:∀ z,Und d' k z↔Und d k z:=fun z=>Und.congr w a2;have X:∀ m s,0<=m->qJa d' m s=if m=t/\s=sh then insM (listM (nd d t) sh) a k else qJa d m s:=by
  intro m s H;unfold qJa;by_cases e:m=t
  ·subst e;rw [W,qWe];by_cases P:s=sh
   ·rw [if_pos P,if_pos ⟨rfl,P⟩]
   ·rw [if_neg P,if_neg (fun h=>P h.2)]
  ·rw [p m H e,if_neg (fun h=>e h.1)]
 have a3:∀ m s,isM d m false=true->k∉qJa d m s:=fun m s H h=>(g.kid m s k H h).2.2.2.2 rfl;have a4:∀ z,Und d k z->r k<=r z:=by
  intro z hz;induction hz with
  | here _=>exact Nat.le_refl _
  | @step z a b _ ih=>
    by_cases e:z=k
    ·rw [e];exact Nat.le_refl _
    ·have:=(g.rank z a).2 b e;omega
 refine ⟨⟨?_,?_,?_,?_,?_,?_,?_⟩,w,a8⟩
 ·obtain ⟨J,A,K,y,M⟩:=u 0 (by omega);rw [J,A,K,y,M];exact g.root
 ·intro n Y Q _;have E:=(w n).1 Y;have hp:=(qQh.1 E).1;obtain ⟨-,-,T,U,-⟩:=u n hp;have a1:∀ q,isM d q true=true->isM d' q true=true:=by
   intro q hq;obtain ⟨q1,q2⟩:=qJe.1 hq;exact qJe.2 ⟨(w q).2 q1,by rw [(u q (qQh.1 q1).1).2.1];exact q2⟩
  rw [T,U];by_cases e:n=k
  ·subst e;rw [Z,hs];exact ⟨a1 _ F,by rw [X _ _ a6,if_pos ⟨rfl,rfl⟩];exact zY4.2 (.inl rfl)⟩
  ·obtain ⟨u1,u2⟩:=g.up n E Q e;refine ⟨a1 _ u1,?_⟩;rw [X _ _ (qQh.1 (qZ0 u1)).1];split
   ·rename_i h;rw [h.1,h.2] at u2;exact zY4.2 (.inr u2)
   ·exact u2
 ·intro n s j Y D;have E:=(w n).1 Y;rw [X n s (qQh.1 E).1] at D;have V:∀ j,isM d j false=true/\(nd d j).up=n/\(nd d j).inS=s/\j≠0->isM d' j false=true/\(nd d' j).up=n/\(nd d' j).inS=s/\j≠0/\¬ qQk j:=by
   rintro j ⟨B,G,c3,c4⟩;obtain ⟨-,-,T,U,-⟩:=u j (qQh.1 B).1;exact ⟨(w j).2 B,by rw [T];exact G,by rw [U];exact c3,c4,fun h=>h⟩
  split at D
  ·rename_i h;obtain ⟨rfl,rfl⟩:=h;rcases zY4.1 D with rfl | D
   ·exact V _ ⟨hk,Z,hs,a0⟩
   ·obtain ⟨B,G,c3,c4,-⟩:=g.kid _ _ j E D;exact V _ ⟨B,G,c3,c4⟩
  ·obtain ⟨B,G,c3,c4,-⟩:=g.kid _ _ j E D;exact V _ ⟨B,G,c3,c4⟩
 ·refine qVl (fun m H=>?_);by_cases e:m=t
  ·subst e;have i:=g.ok m;obtain ⟨J,A,K,y,M,O,a7⟩:=qWb (nd d m) sh (insM (listM (nd d m) sh) a k);rw [W];refine ⟨fun s=>?_,fun s=>?_,fun h=>?_,fun h=>?_,by rw [A,O];exact i.slot,by rw [y];exact i.rising,by rw [y];exact i.few8,by rw [y];exact i.atts,by rw [A,K];exact i.short⟩
   ·rw [qWe];split
    ·rw [zBj];omega
    ·exact i.few s
   ·rw [qWe];split
    ·exact zHo (i.once sh) (a3 m sh (qZ0 F))
    ·exact i.once s
   ·rw [A] at h;exact absurd h (qJe.1 F).2
   ·rw [O] at h;cases sh with
    | true=>rw [a5 rfl] at h;simp at h
    | false=>exact i.hs h
  ·rw [p m H e];exact g.ok m
 ·intro m;refine qVl (P:=fun x=>x.live=false->x={}) (fun m H=>?_) m;by_cases e:m=t
  ·subst e;rw [(u m H).1,(qQh.1 (qZ0 F)).2];simp
  ·rw [p m H e];exact g.blank m
 ·intro z hz;have S:=(w z).1 hz;have rt:=(g.rank t (qZ0 F)).1;have rz:=g.rank z S;refine ⟨by split <;> omega,fun Q _=>?_⟩;rw [a2 z S];by_cases e:z=k
  ·subst e;rw [if_pos (.here S),Z,if_neg a9];omega
  ·have h2:=rz.2 Q e;have p:Und d k z↔Und d k (nd d z).up:=by
    constructor
    ·intro h;cases h with
     | here _=>exact absurd rfl e
     | step _ _ h=>exact h
    ·exact fun h=>.step S Q h
   by_cases I:Und d k z
   ·rw [if_pos I,if_pos (p.1 I)];have:=a4 _ (p.1 I);omega
   ·rw [if_neg I,if_neg (fun h=>I (p.2 h))];exact h2
 ·have:¬ Und d k 0:=by
   intro h;cases h with
   | here _=>exact a0 rfl
   | step _ h _=>exact h rfl
  rw [if_neg this];exact g.rank0
theorem G0.bound (g:G0 qQk R r d) {k:Int} (H:isM d k false=true) (q:R<100) (i:((qFi d k).length:Int) - 1+qZo d k<=16) (j:∀ x,isM d x false=true->¬ Und d k x->r x<=16):G0 qQk 16 r d:=by
 refine ⟨g.root,g.up,g.kid,g.ok,g.blank,fun x e=>⟨?_,(g.rank x e).2⟩,g.rank0⟩;by_cases h:Und d k x
 ·have m:=qGo g 100 k x H (by omega) h;have p:=qGg g H;unfold qZo at i;omega
 ·exact j x e h
end
end Go.Proofs.YtkhkbifdakikcaaGreatDoor
namespace Go.Proofs.YtkhkbifdakikcaaGreatDoor
open Op (bytesLess)
variable {l:List Att} {n v:Txt}
theorem qFh:∀ a:Txt,bytesLess a a=false:=by
 intro a;induction a with
 | nil=>rfl
 | cons x a i=>simp [bytesLess,i]
theorem zZu:∀ a b c:Txt,bytesLess a b=true->bytesLess b c=true->bytesLess a c=true:=by
 intro a;induction a with
 | nil=>intro b c H h;cases c with | nil=>cases b <;> simp [bytesLess] at h | cons z c=>rfl
 | cons x a i=>
   intro b c H h;cases b with
   | nil=>simp [bytesLess] at H
   | cons y b=>
     cases c with
     | nil=>simp [bytesLess] at h
     | cons z c=>
       simp only [bytesLess,Bool.or_eq_true,decide_eq_true_eq,Bool.and_eq_true,beq_iff_eq] at *
       rcases H with H | ⟨rfl,H⟩
       ·rcases h with h | ⟨rfl,h⟩
        ·exact .inl (UInt8.lt_trans H h)
        ·exact .inl H
       ·rcases h with h | ⟨rfl,h⟩
        ·exact .inl h
        ·exact .inr ⟨rfl,i _ _ H h⟩
theorem zZk:∀ a b:Txt,bytesLess a b=false->a≠b->bytesLess b a=true:=by
 intro a;induction a with
 | nil=>intro b H g;cases b with | nil=>exact absurd rfl g | cons y b=>simp [bytesLess] at H
 | cons x a i=>
   intro b H g;cases b with
   | nil=>rfl
   | cons y b=>
     simp only [bytesLess,Bool.or_eq_false_iff,decide_eq_false_iff_not,Bool.and_eq_false_imp,beq_iff_eq,Bool.or_eq_true,decide_eq_true_eq,Bool.and_eq_true] at *
     by_cases e:x=y
     ·subst e;right;exact ⟨rfl,i b (H.2 rfl) (fun h=>g (by rw [h]))⟩
     ·left;have:¬ x<y:=H.1;rw [UInt8.lt_iff_toNat_lt] at *
      have:x.toNat≠y.toNat:=fun h=>e (UInt8.toNat_inj.1 h);omega
def insA (n v:Txt):List Att->List Att
 | []=>[⟨n,v⟩]
 | a::l=>if a.name=n then ⟨n,v⟩::l else if bytesLess a.name n then a::insA n v l else ⟨n,v⟩::a::l
theorem zKs:∀ (l p:List Att),(∀ a∈l,a.name≠n)->l.foldl (attStep n v) (p,true)=(p++l,true):=by
 intro l;induction l with
 | nil=>intro p _;simp
 | cons a l i=>
   intro p h;simp only [List.foldl_cons,attStep];rw [if_neg (h a (by simp))];simp only [Bool.not_true,Bool.and_false,Bool.false_eq_true,if_false];rw [i _ (fun b H=>h b (by simp [H]))];simp
theorem qD7 {a:Att} (h:Rising (a::l)):∀ b∈l,bytesLess a.name b.name=true:=(List.pairwise_cons.1 h).1
theorem zFo:∀ (l p:List Att),Rising l->(if (l.foldl (attStep n v) (p,false)).2 then (l.foldl (attStep n v) (p,false)).1 else (l.foldl (attStep n v) (p,false)).1++[⟨n,v⟩])=p++insA n v l:=by
 intro l;induction l with
 | nil=>intro p _;simp [insA]
 | cons a l I=>
   intro p h;have j:=qD7 h;have m:Rising l:=(List.pairwise_cons.1 h).2;simp only [List.foldl_cons,attStep,insA];by_cases e:a.name=n
   ·have g:∀ b∈l,b.name≠n:=by
     intro b H q;have:=j b H;rw [e,q,qFh] at this;simp at this
    rw [if_pos e,if_pos e,zKs _ _ g];simp [e]
   ·rw [if_neg e,if_neg e];by_cases c:bytesLess a.name n=true
    ·rw [if_pos c];simp only [c,Bool.not_true,Bool.false_and,Bool.false_eq_true,if_false];rw [I _ m];simp
    ·have i:bytesLess a.name n=false:=(by simpa using c);have s:=zZk _ _ i e;have g:∀ b∈l,b.name≠n:=by
      intro b H q;have:=zZu _ _ _ s (j b H);rw [q,qFh] at this;simp at this
     rw [if_neg c];simp only [i,Bool.not_false,Bool.true_and,if_true];rw [zKs _ _ g];simp
theorem zJm (h:Rising l):zBl l n v=insA n v l:=by
 have:=zFo (n:=n) (v:=v) l [] h;unfold zBl attsF;simpa using this
theorem zV4:∀ {l:List Att} {b:Att},b∈insA n v l->b=⟨n,v⟩∨b∈l:=by
 intro l;induction l with
 | nil=>intro b h;simpa [insA] using h
 | cons a l i=>
   intro b h;rw [insA] at h;split at h
   ·rcases List.mem_cons.1 h with h | h
    ·exact .inl h
    ·exact .inr (by simp [h])
   ·split at h
    ·rcases List.mem_cons.1 h with h | h
     ·exact .inr (by simp [h])
     ·rcases i h with h | h
      ·exact .inl h
      ·exact .inr (by simp [h])
    ·rcases List.mem_cons.1 h with h | h
     ·exact .inl h
     ·exact .inr h
theorem zXz:∀ {l:List Att},Rising l->Rising (insA n v l):=by
 intro l;induction l with
 | nil=>intro _;simp [insA,Rising]
 | cons a l I=>
   intro h;have g:=qD7 h;have i:Rising l:=(List.pairwise_cons.1 h).2;rw [insA];split
   ·rename_i e;exact List.pairwise_cons.2 ⟨fun b H=>by rw [<- e];exact g b H,i⟩
   ·rename_i e;split
    ·rename_i c;refine List.pairwise_cons.2 ⟨fun b H=>?_,I i⟩;rcases zV4 H with rfl | H
     ·exact c
     ·exact g b H
    ·rename_i c;have j:=zZk _ _ (by simpa using c) e;refine List.pairwise_cons.2 ⟨fun b H=>?_,h⟩;rcases List.mem_cons.1 H with rfl | H
     ·exact j
     ·exact zZu _ _ _ j (g b H)
end Go.Proofs.YtkhkbifdakikcaaGreatDoor
namespace Go.Proofs.YtkhkbifdakikcaaGreatDoor
structure PutOk (d:Dc) (k t:Int) (sh:Bool):Prop where
 tree:∃ r,G0 (·=k) 16 r d
 is:isM d k false=true
 ne:k≠0
 up:(nd d k).up=t
 ins:(nd d k).inS=sh
 to:isM d t true=true
 host:sh=true->(nd d t).hasS=true
 und:¬ Und d k t
theorem zV1 (l:List Int) (b:Int):qXi l b<=l.length:=by
 unfold qXi;split
 ·rcases zHk b l 0 (-1) with h | h <;> omega
 ·exact Int.le_refl _
theorem qBr {d:Dc} {k t before:Int} {sh:Bool} (h:isM d t true=true):(putD d k t before sh).length=d.length:=by
 have:=qJq (qZ0 h);unfold putD;rw [qKi,if_neg (by omega)]
theorem PutOk.tree' {d:Dc} {k t before:Int} {sh:Bool} (h:PutOk d k t sh) (p:(listM (nd d t) sh).length<12) :
 ∃ r,G0 qQk 33 r (putD d k t before sh)/\isM (putD d k t before sh) k false=true/\(∀ z,isM (putD d k t before sh) z false=true->¬ Und (putD d k t before sh) k z->r z<=16):=by
 obtain ⟨r,g⟩:=h.tree;have q:=qJq (qZ0 h.to);have j:=(qQh.1 (qZ0 h.to)).1;have i:=fun m=>qBj (x:=qKw (nd d t) sh (insM (listM (nd d t) sh) (qXi (listM (nd d t) sh) before).toNat k)) (Nat.le_of_lt q.1) m;obtain ⟨G,H,w⟩:=g.attach (d':=putD d k t before sh) h.is h.ne h.up h.ins h.to h.host p h.und
  (by unfold putD;rw [i,if_pos rfl]) (fun m s u=>by unfold putD;rw [i,if_neg (fun e=>u (toNat_inj s j e))])
 refine ⟨_,G,(H k).2 h.is,fun z y A=>?_⟩;have:=(g.rank z ((H z).1 y)).1;rw [if_neg (fun e=>A ((w z).2 e))];exact this
theorem zVw {d:Dc} {k t before:Int} {sh:Bool} (h:PutOk d k t sh) (H:(putM d k t before sh).1=0):(putM d k t before sh).2=putD d k t before sh/\∃ r,G0 qQk 16 r (putM d k t before sh).2:=by
 unfold putM at H ⊢;split at H
 ·simp at H
 ·rename_i e;rw [if_neg e];split at H
  ·simp at H
  ·rename_i i;rw [if_neg i];split at H
   ·simp at H
   ·rename_i c3;rw [if_neg c3];obtain ⟨r,g,j,m⟩:=h.tree' (before:=before) (by omega);exact ⟨rfl,r,g.bound j (by omega) (by omega) m⟩
theorem qFc:∀ (d:Dc) (i a:Nat),a<=qBn d i a:=by
 intro d;induction d with
 | nil=>intro i a;exact Nat.le_refl _
 | cons x d I=>
   intro i a;rw [qBn];split
   ·rename_i h;simp at h;exact Nat.le_trans (by omega) (I _ _)
   ·exact I _ _
theorem lastF_le:∀ (d:Dc) (i a:Nat),a<=i+d.length->qBn d i a<=i+d.length:=by
 intro d;induction d with
 | nil=>intro i a h;simpa [qBn] using h
 | cons x d I=>
   intro i a h;rw [qBn];simp only [List.length_cons] at *
   refine Nat.le_trans (I _ _ ?_) (by omega);split <;> omega
theorem zZg:∀ (d:Dc) (i a j:Nat) (h:j<d.length),qBn d i a<=i+j->d[j].live=false:=by
 intro d;induction d with
 | nil=>intro i a j h;simp at h
 | cons x d I=>
   intro i a j h H;rw [qBn] at H;cases j with
   | zero=>
     simp only [List.getElem_cons_zero];split at H
     ·have:=qFc d (i+1) (i+1);omega
     ·rename_i c;have:=qFc d (i+1) a;simp at c;cases e:x.live with
      | false=>rfl
      | true=>have:=c e;omega
   | succ j=>
     simp only [List.getElem_cons_succ];exact I (i+1) (if x.live&&decide (a<=i) then i+1 else a) j (by simpa using h) (by omega)
theorem zZy:∀ (d:Dc) (i a:Nat),qBn d i a=a∨∃ j,∃ h:j<d.length,d[j].live=true/\qBn d i a=i+j+1:=by
 intro d;induction d with
 | nil=>intro i a;exact .inl rfl
 | cons x d I=>
   intro i a;rw [qBn];split
   ·rename_i c;simp at c;rcases I (i+1) (i+1) with h | ⟨j,h,H,e⟩
    ·exact .inr ⟨0,by simp,by simpa using c.1,by rw [h]⟩
    ·exact .inr ⟨j+1,by simpa using h,by simpa using H,by rw [e];omega⟩
   ·rcases I (i+1) a with h | ⟨j,h,H,e⟩
    ·exact .inl h
    ·exact .inr ⟨j+1,by simpa using h,by simpa using H,by rw [e];omega⟩
theorem G0.trim {r:Int->Nat} {R:Nat} {d:Dc} (g:G0 qQk R r d):(∀ n,nd (qYz d) n=nd d n)/\(qYz d).length<=d.length/\((qYz d).length=1∨isM (qYz d) (((qYz d).length:Int) - 1) false=true):=by
 have s:=g.pos;have q:=lastF_le d 0 1 (by omega);have p:=qFc d 0 1;have m:(qYz d).length=qBn d 0 1:=by unfold qYz;rw [List.length_take];omega
 have i:∀ n,nd (qYz d) n=nd d n:=by
  intro n;by_cases h:n.toNat<qBn d 0 1
  ·unfold nd qYz;rw [List.getElem?_take_of_lt h]
  ·have e:nd (qYz d) n={}:=(by unfold nd;rw [List.getElem?_eq_none (by omega)];rfl);rw [e];by_cases H:n.toNat<d.length
   ·refine (g.blank n ?_).symm;have:=zZg d 0 1 n.toNat H (by omega);unfold nd;rw [List.getElem?_eq_getElem H];exact this
   ·unfold nd;rw [List.getElem?_eq_none (by omega)];rfl
 refine ⟨i,by omega,?_⟩;rcases zZy d 0 1 with h | ⟨j,h,e,H⟩
 ·left;omega
 ·right;rw [qQh,i,m,H];refine ⟨by omega,?_⟩;unfold nd;rw [show (((0+j+1:Nat):Int) - 1).toNat=j by omega,List.getElem?_eq_getElem h];exact e
theorem G0.of_nd {free:Int->Prop} {r:Int->Nat} {R:Nat} {d d':Dc} (g:G0 free R r d) (h:∀ n,nd d' n=nd d n):G0 free R r d':=by
 refine g.same (fun n _=>by rw [h n];exact ⟨rfl,rfl,rfl,rfl,rfl,rfl⟩) (by rw [h 0];exact g.root.2.2.2.1) (fun n _=>by rw [h n];exact g.ok n) (fun n _=>by rw [h n];exact g.blank n)
theorem zG3 {d:Dc} (h:∃ r,G0 qQk 16 r d) (j:d.length<=60):Good (qYz d):=by
 obtain ⟨r,g⟩:=h;obtain ⟨H,i,e⟩:=g.trim;exact ⟨by omega,⟨r,g.of_nd H⟩,e⟩
theorem zHy {d:Dc} {r:Int->Nat} {R:Nat} (g:G0 qQk R r d):qK3 d<=d.length/\nd d (qK3 d:Int)={}:=by
 have H:qK3 d<=d.length:=List.findIdx_le_length;refine ⟨H,?_⟩;rcases Nat.lt_or_ge (qK3 d) d.length with h | h
 ·have:=List.findIdx_getElem (w:=h) (p:=fun x:Nd=>!x.live) (xs:=d);refine g.blank _ ?_;rw [qQ2 h];have e:(!d[qK3 d].live)=true:=this;simpa using e
 ·unfold nd;rw [List.getElem?_eq_none (by omega)];rfl
theorem zGy {d:Dc} {t:Int} {sh:Bool} {x:Nd} (g:∃ r,G0 qQk 16 r d) (z:isM d t true=true) (y:sh=true->(nd d t).hasS=true) (B:NdOk { x with live:=true,up:=t,inS:=sh }) (D:x.kids=[]) (E:x.shadow=[]) :
 PutOk (qZq d (qK3 d) { x with live:=true,up:=t,inS:=sh }) (qK3 d) t sh/\listM (nd (qZq d (qK3 d) { x with live:=true,up:=t,inS:=sh }) t) sh=listM (nd d t) sh:=by
 obtain ⟨r,g⟩:=g;obtain ⟨u,F⟩:=zHy g;have s:=fun m=>qBj (x:={ x with live:=true,up:=t,inS:=sh }) u m;have H:∀ m:Int,0<=m->m≠(qK3 d:Int)->nd (qZq d (qK3 d) { x with live:=true,up:=t,inS:=sh }) m=nd d m:=by
  intro m I J;rw [s,if_neg (by omega)]
 have q:nd (qZq d (qK3 d) { x with live:=true,up:=t,inS:=sh }) (qK3 d:Int)={ x with live:=true,up:=t,inS:=sh }:=by rw [s,if_pos (by omega)]
 have i:=qJe.1 z;have p:=(qQh.1 i.1).1;have j:t≠(qK3 d:Int):=by
  rintro e;have:=(qQh.1 i.1).2;rw [e,F] at this;simp at this
 have w:(0:Int)≠(qK3 d:Int):=by
  intro e;have:=(qQh.1 g.is0).2;rw [e,F] at this;simp at this
 obtain ⟨G,A⟩:=g.born (d':=qZq d (qK3 d) { x with live:=true,up:=t,inS:=sh }) (n:=(qK3 d:Int)) (by omega) F (x:={ x with live:=true,up:=t,inS:=sh }) rfl D E B i.1 q H;refine ⟨⟨⟨_,G⟩,qQh.2 ⟨by omega,by rw [q]⟩,fun e=>w e.symm,by rw [q],by rw [q],qJe.2 ⟨qQh.2 ⟨p,by rw [H t p j];exact (qQh.1 i.1).2⟩,by rw [H t p j];exact i.2⟩,by rw [H t p j];exact y,fun h=>j (A t h)⟩,by rw [H t p j]⟩
theorem zJi {d:Dc} {n:Int} (H:isM d (nd d n).up false=true) (m:Int) (hm:0<=m):nd (qZ5 d n) m=if m=(nd d n).up then cutM (nd d (nd d n).up) n else nd d m:=by
 have g:=qJq H;unfold qZ5;rw [qBj (Nat.le_of_lt g.1)];by_cases e:m=(nd d n).up
 ·rw [if_pos e,if_pos (by rw [e])];rfl
 ·rw [if_neg e,if_neg (fun h=>e (toNat_inj hm (qQh.1 H).1 h))]
theorem take_length {d:Dc} {n:Int} (h:isM d (nd d n).up false=true):(qZ5 d n).length=d.length:=by
 have H:=qJq h;unfold qZ5;rw [qKi,if_neg (by omega)]
theorem zHs {d:Dc} {n t:Int} (g:∃ r,G0 qQk 16 r d) (i:isM d n false=true) (p:n≠0) (M:isM d t true=true) (S:qXl d t n=false) :
 PutOk (qZq (qZ5 d n) n.toNat { nd d n with up:=t,inS:=false }) n t false/\(qZq (qZ5 d n) n.toNat { nd d n with up:=t,inS:=false }).length=d.length:=by
 obtain ⟨r,g⟩:=g;have K:=(g.up n i p (fun h=>h)).1;have w:=qZ0 K;have T:=qJq i;have z:=(qQh.1 i).1;have J:(nd d n).up≠n:=by
  intro h;have b:=(g.rank n i).2 p (fun h=>h);rw [h] at b;omega
 have F:=take_length w;have B:=fun m=>qBj (d:=qZ5 d n) (x:={ nd d n with up:=t,inS:=false }) (k:=n.toNat) (by omega) m;have q:nd (qZq (qZ5 d n) n.toNat { nd d n with up:=t,inS:=false }) n={ nd d n with up:=t,inS:=false }:=by rw [B,if_pos rfl]
 have u:∀ m,0<=m->m≠n->nd (qZq (qZ5 d n) n.toNat { nd d n with up:=t,inS:=false }) m=if m=(nd d n).up then cutM (nd d (nd d n).up) n else nd d m:=by
  intro m s I;rw [B,if_neg (fun h=>I (toNat_inj s z h)),zJi w m s]
 have H:=g.ok n;obtain ⟨G,Q⟩:=g.loosed (d':=qZq (qZ5 d n) n.toNat { nd d n with up:=t,inS:=false }) i p (x:={ nd d n with up:=t,inS:=false }) (qQh.1 i).2 rfl rfl rfl
  ⟨H.few,H.once,H.text,H.hs,H.slot,H.rising,H.few8,H.atts,H.short⟩ q (by rw [u _ (qQh.1 w).1 J,if_pos rfl]) (fun m s D E=>by rw [u m s D,if_neg E])
 have j:=qJe.1 M;have y:=(qQh.1 j.1).1;have A:¬ Und d n t:=by
  intro h;have:=(zZl g j.1).2 h;rw [S] at this;simp at this
 have O:t≠n:=by rintro rfl;exact A (.here i)
 have P:=u t y O;refine ⟨⟨⟨r,G⟩,qQh.2 ⟨z,by rw [q];exact (qQh.1 i).2⟩,p,by rw [q],by rw [q],?_,fun h=>by simp at h,fun h=>A (Q t h)⟩,by rw [qKi,if_neg (by omega),F]⟩;rw [qJe,qQh,P];split
 ·rename_i e;rw [<- e];exact ⟨⟨y,(qQh.1 j.1).2⟩,j.2⟩
 ·exact ⟨⟨y,(qQh.1 j.1).2⟩,j.2⟩
theorem qDm:∀ (l:List Int) (d:Dc),(∀ x∈l,0<=x/\x.toNat<d.length)->(qZn d l).length=d.length/\∀ m,0<=m->nd (qZn d l) m=if m∈l then {} else nd d m:=by
 intro l;induction l with
 | nil=>intro d _;exact ⟨rfl,fun m _=>by simp [qZn]⟩
 | cons a l I=>
   intro d h;have p:=h a (by simp);have H:(qZq d a.toNat {}).length=d.length:=(by rw [qKi,if_neg (by omega)]);obtain ⟨i,j⟩:=I (qZq d a.toNat {}) (fun x q=>by rw [H];exact h x (by simp [q]));refine ⟨by show (qZn (qZq d a.toNat {}) l).length=_;rw [i,H],fun m g=>?_⟩;show nd (qZn (qZq d a.toNat {}) l) m=_;rw [j m g,qBj (by omega)];by_cases e:m∈l
   ·rw [if_pos e,if_pos (by simp [e])]
   ·rw [if_neg e];by_cases E:m=a
    ·rw [if_pos (by rw [E]),if_pos (by simp [E])]
    ·rw [if_neg (fun h=>E (toNat_inj g p.1 h)),if_neg (by simp [e,E])]
theorem zX7 {d:Dc} {n:Int} (g:∃ r,G0 qQk 16 r d) (i:isM d n false=true) (j:n≠0):(∃ r,G0 qQk 16 r (qZn (qZ5 d n) (allM d n)))/\(qZn (qZ5 d n) (allM d n)).length=d.length:=by
 obtain ⟨r,g⟩:=g;have z:=(g.up n i j (fun h=>h)).1;have H:=qZ0 z;have s:=take_length H;have e:∀ x,x∈allM d n↔Und d n x:=fun x=>qXx g 100 n x i (by omega);obtain ⟨q,B⟩:=qDm (allM d n) (qZ5 d n) (fun x A=>by have:=qJq ((e x).1 A).is;omega);have y:¬ Und d n (nd d n).up:=by
  intro h;have a:=h.le g;have b:=(g.rank n i).2 j (fun h=>h);omega
 refine ⟨⟨r,g.removed i j (fun m u=>?_) ?_ (fun m p u w=>?_)⟩,by rw [q,s]⟩
 ·rw [B m (qQh.1 u.is).1,if_pos ((e m).2 u)]
 ·rw [B _ (qQh.1 H).1,if_neg (fun h=>y ((e _).1 h)),zJi H _ (qQh.1 H).1,if_pos rfl]
 ·rw [B m p,if_neg (fun h=>u ((e _).1 h)),zJi H m p,if_neg w]
theorem zWk {s:Txt} (h:name s=true):s≠[]/\s.length<=20:=by
 simp [name] at h;exact ⟨by rintro rfl;simp at h,h.1.2⟩
theorem zWe {x:Chg} {t:Int} {sh:Bool} (h:qJh x.kind=true->x.value.length<=60) (H:qJh x.kind=false->name x.name=true):NdOk { qZ7 x with live:=true,up:=t,inS:=sh }/\(qZ7 x).kids=[]/\(qZ7 x).shadow=[]:=by
 unfold qZ7;split
 ·rename_i c;refine ⟨⟨?_,?_,?_,?_,?_,?_,?_,?_,?_⟩,rfl,rfl⟩ <;> simp [listM,Rising,qJr]
  exact h c
 ·rename_i c;have:=zWk (H (by simpa using c));refine ⟨⟨?_,?_,?_,?_,?_,?_,?_,?_,?_⟩,rfl,rfl⟩ <;> simp [listM,Rising,qJr]
  exact this.2
theorem qBo {d:Dc} {x:Chg} (g:Good d) (j:isM d x.node false=true) (H:(qQ8 d x).1=0):(∃ r,G0 qQk 16 r (qQ8 d x).2.2)/\(qQ8 d x).2.2.length<=60:=by
 have gt:=g.tree;have s:=g.len;have P:=qJq j;have w:∀ y,(qZq d x.node.toNat y).length=d.length:=fun y=>by rw [qKi,if_neg (by omega)]
 unfold qQ8 at H ⊢;split at H
 ·rename_i c;rw [if_pos c];unfold qD4 at H ⊢;split at H
  ·simp at H
  ·rename_i i;rw [if_neg i];simp at i;split at H
   ·simp at H
   ·rename_i m;rw [if_neg m];split at H
    ·simp at H
    ·rename_i c3;rw [if_neg c3];obtain ⟨ok,J⟩:=zHs (t:=x.dest) gt j i.1 i.2 (by simpa using m);obtain ⟨p,u⟩:=zVw ok H;refine ⟨u,?_⟩;dsimp only;rw [p,qBr ok.to,J];exact s
 ·rename_i c;rw [if_neg c];split at H
  ·rename_i c4;rw [if_pos c4];unfold removeM at H ⊢;split at H
   ·simp at H
   ·rename_i i;rw [if_neg i];obtain ⟨p,u⟩:=zX7 gt j i;exact ⟨p,by dsimp only;omega⟩
  ·rename_i c4;rw [if_neg c4];split at H
   ·rename_i D;rw [if_pos D];unfold sayM at H ⊢;split at H
    ·simp at H
    ·rename_i i;rw [if_neg i];simp at i;obtain ⟨r,G⟩:=gt;have e:=G.ok x.node;refine ⟨⟨r,G.tweak j (qQh.1 j).2 rfl rfl rfl rfl rfl (fun h=>?_) ⟨e.few,e.once,e.text,e.hs,e.slot,e.rising,e.few8,e.atts,i.2,e.short.2⟩⟩,by dsimp only;rw [w];exact s⟩;have:=G.root.2.1;rw [<- h,i.1] at this;simp [mainT] at this
   ·rename_i D;rw [if_neg D];split at H
    ·simp at H
    ·rename_i F;rw [if_neg F];have z:(nd d x.node).tag≠[]:=(by simpa using F);have I:isM d x.node true=true:=qJe.2 ⟨j,z⟩;split at H
     ·rename_i A;rw [if_pos A];unfold qK1 at H ⊢;split at H
      ·simp at H
      ·rename_i i;rw [if_neg i];split at H
       ·simp at H
       ·rename_i m;rw [if_neg m];split at H
        ·simp at H
        ·rename_i c3;rw [if_neg c3];obtain ⟨r,G⟩:=gt;have e:=G.ok x.node;refine ⟨⟨r,G.tweak j (qQh.1 j).2 rfl rfl rfl rfl rfl (fun h=>by rw [h];exact G.root.2.2.2.1) ⟨e.few,e.once,fun h=>absurd h z,e.hs,e.slot,?_,by dsimp only;omega,?_,e.short⟩⟩,by dsimp only;rw [w];exact s⟩
         ·dsimp only;rw [zJm e.rising];exact zXz e.rising
         ·dsimp only;rw [zJm e.rising];intro a q;rcases zV4 q with rfl | q
          ·exact ⟨(zWk (by simpa using i)).2,by simpa using m⟩
          ·exact e.atts a q
     ·rename_i A;rw [if_neg A];split at H
      ·rename_i B;rw [if_pos B];unfold qGq at H ⊢;split at H
       ·simp at H
       ·rename_i i;rw [if_neg i];obtain ⟨r,G⟩:=gt;have e:=G.ok x.node;refine ⟨⟨r,G.tweak j (qQh.1 j).2 rfl rfl rfl rfl rfl (fun h=>by rw [h];exact G.root.2.2.2.1) ⟨e.few,e.once,fun h=>absurd h z,e.hs,e.slot,?_,?_,?_,e.short⟩⟩,by dsimp only;rw [w];exact s⟩
        ·exact List.Pairwise.filter _ e.rising
        ·exact Nat.le_trans (List.length_filter_le _ _) e.few8
        ·intro a q;exact e.atts a (List.mem_filter.1 q).1
      ·rename_i B;rw [if_neg B];split at H
       ·rename_i E;rw [if_pos E];unfold qHz at H ⊢;split at H
        ·simp at H
        ·rename_i i;rw [if_neg i];simp at i;obtain ⟨r,G⟩:=gt;have e:=G.ok x.node;refine ⟨⟨r,G.tweak j (qQh.1 j).2 rfl rfl rfl rfl rfl (fun h=>absurd h i.1.1) ⟨e.few,e.once,fun h=>absurd h z,fun h=>by simp at h,fun h=>absurd h i.2,e.rising,e.few8,e.atts,e.short⟩⟩,by dsimp only;rw [w];exact s⟩
       ·rename_i E;rw [if_neg E];unfold qXk at H ⊢;split at H
        ·simp at H
        ·rename_i i;rw [if_neg i];split at H
         ·simp at H
         ·rename_i m;rw [if_neg m];split at H
          ·simp at H
          ·rename_i c3;rw [if_neg c3];unfold qBt at H ⊢;split at H
           ·simp at H
           ·rename_i c4;rw [if_neg c4];simp at i m c3;obtain ⟨K,M,O⟩:=zWe (x:=x) (t:=x.node) (sh:=qXu x.kind) (fun h=>i h) (fun h=>m h);obtain ⟨ok,-⟩:=zGy gt I (fun h=>c3 h) K M O;obtain ⟨p,u⟩:=zVw ok H;refine ⟨u,?_⟩;dsimp only;rw [p,qBr ok.to,qKi];split <;> omega
theorem qHx {d:Dc} {x:Chg} (g:Good d) (h:(qQ7 d x).1=0):Good (qQ7 d x).2.2:=by
 unfold qQ7 at h ⊢;split at h
 ·simp at h
 ·rename_i i;rw [if_neg i];split at h
  ·simp at h
  ·rename_i e;rw [if_neg e];split at h
   ·rename_i c3;rw [if_pos c3];obtain ⟨H,j⟩:=qBo g (by simpa using e) c3;exact zG3 H j
   ·rename_i c3;exact absurd h c3
theorem zHg:Good rootD:=by
 have H:∀ n:Int,0<=n->nd rootD n=if n=0 then { live:=true,tag:=mainT,up:=-1 } else {}:=by
  intro n h;unfold nd rootD;split
  ·rename_i e;subst e;rfl
  ·rw [List.getElem?_eq_none (by simp;omega)];rfl
 refine ⟨by decide,⟨fun _=>0,?_,?_,?_,?_,?_,?_,rfl⟩,.inl rfl⟩
 ·rw [H 0 (by omega)];exact ⟨rfl,rfl,rfl,rfl,rfl⟩
 ·intro n h i _;have:=qQh.1 h;rw [H n this.1,if_neg i] at this;simp at this
 ·intro n sh k h g;have:=qQh.1 h;unfold qJa listM at g;rw [H n this.1] at g;split at g <;> split at g <;> simp at g
 ·refine qVl (fun n h=>?_);rw [H n h];split
  ·refine ⟨?_,?_,?_,?_,?_,?_,?_,?_,?_⟩ <;> simp [listM,Rising,mainT,qJr]
  ·exact NdOk.blank
 ·intro n;refine qVl (P:=fun x=>x.live=false->x={}) (fun n h=>?_) n;rw [H n h];split
  ·intro h;simp at h
  ·intro _;rfl
 ·intro n h;have:=qQh.1 h;refine ⟨by omega,fun i _=>?_⟩;rw [H n this.1,if_neg i] at this;simp at this
def preF (kids:Int->List Int):Nat->Int->List Int
 | 0,_=>[]
 | f+1,n=>n::(kids n).flatMap (preF kids f)
structure Falls (kids:Int->List Int) (μ:Int->Nat) (N:Nat):Prop where
 down:∀ n k,k∈kids n->μ n<μ k
 top:∀ n,μ n<=N
inductive Reach (kids:Int->List Int) (n:Int):Int->Prop
 | here:Reach kids n n
 | step {x y:Int}:Reach kids n x->y∈kids x->Reach kids n y
section
variable {kids:Int->List Int} {μ:Int->Nat} {N:Nat}
theorem Reach.trans {a b c:Int} (h:Reach kids b c) (k:Reach kids a b):Reach kids a c:=by
 induction h with
 | here=>exact k
 | step _ h i=>exact .step i h
theorem Reach.first {a c:Int} (h:Reach kids a c):c=a∨∃ b∈kids a,Reach kids b c:=by
 induction h with
 | here=>exact .inl rfl
 | @step x y h H i=>
   right;rcases i with rfl | ⟨b,g,e⟩
   ·exact ⟨y,H,.here⟩
   ·exact ⟨b,g,.step e H⟩
theorem Reach.le (F:Falls kids μ N) {a c:Int} (h:Reach kids a c):μ a<=μ c:=by
 induction h with
 | here=>exact Nat.le_refl _
 | step _ h i=>exact Nat.le_trans i (Nat.le_of_lt (F.down _ _ h))
theorem pre_more (F:Falls kids μ N):∀ f n,N<μ n+f->preF kids (f+1) n=preF kids f n:=by
 intro f;induction f with
 | zero=>intro n h;have:=F.top n;omega
 | succ f i=>
   intro n h;rw [preF,preF];congr 1;have:∀ L:List Int,(∀ k∈L,μ n<μ k)->L.flatMap (preF kids (f+1))=L.flatMap (preF kids f):=by
    intro L;induction L with
    | nil=>intro _;rfl
    | cons a L I=>
      intro e;have:=e a (by simp);simp only [List.flatMap_cons];rw [i a (by omega),I (fun k H=>e k (by simp [H]))]
   exact this _ (fun k H=>F.down n k H)
theorem qG8 (F:Falls kids μ N) {f:Nat} {n:Int} (h:N<μ n+f):preF kids f n=n::(kids n).flatMap (preF kids f):=by
 rw [<- pre_more F f n h,preF]
theorem qXn (F:Falls kids μ N):∀ f n x,N<μ n+f->(x∈preF kids f n↔Reach kids n x):=by
 intro f;induction f with
 | zero=>intro n x h;have:=F.top n;omega
 | succ f i=>
   intro n x h;rw [preF,List.mem_cons,List.mem_flatMap];constructor
   ·rintro (rfl | ⟨k,H,e⟩)
    ·exact .here
    ·have:=F.down n k H;exact ((i k x (by omega)).1 e).trans (.step .here H)
   ·intro g;rcases g.first with rfl | ⟨k,H,e⟩
    ·left;rfl
    ·right;have:=F.down n k H;exact ⟨k,H,(i k x (by omega)).2 e⟩
structure Alone (kids:Int->List Int) (par:Int->Int):Prop where
 par:∀ n k,k∈kids n->par k=n
 once:∀ n,(kids n).Nodup
theorem qHp {par:Int->Int} (A:Alone kids par) {a b x:Int} (ha:Reach kids a x) (H:Reach kids b x):Reach kids a b∨Reach kids b a:=by
 induction ha with
 | here=>exact .inr H
 | @step p y h e I=>
   cases H with
   | here=>exact .inl (.step h e)
   | @step q _ g i=>
     obtain rfl:p=q:=(A.par _ _ e).symm.trans (A.par _ _ i);exact I g
theorem qX4 {par:Int->Int} (F:Falls kids μ N) (A:Alone kids par):∀ f n,N<μ n+f->(preF kids f n).Nodup:=by
 intro f;induction f with
 | zero=>intro n h;have:=F.top n;omega
 | succ f O=>
   intro n h;rw [preF];have s:∀ k∈kids n,∀ x,x∈preF kids f k↔Reach kids k x:=fun k g x=>qXn F f k x (by have:=F.down n k g;omega);refine List.nodup_cons.2 ⟨fun i=>?_,?_⟩
   ·obtain ⟨k,g,i⟩:=List.mem_flatMap.1 i;have T:=((s k g n).1 i).le F;have u:=F.down n k g;omega
   ·have:∀ L:List Int,L.Nodup->(∀ k∈L,k∈kids n)->(L.flatMap (preF kids f)).Nodup:=by
     intro L;induction L with
     | nil=>intro _ _;simp
     | cons a L P=>
       intro z m;obtain ⟨B,D⟩:=List.nodup_cons.1 z;have H:=m a (by simp);rw [List.flatMap_cons];refine List.nodup_append.2 ⟨O a (by have:=F.down n a H;omega),P D (fun k g=>m k (by simp [g])),?_⟩;intro x i y J e;subst e;obtain ⟨b,j,I⟩:=List.mem_flatMap.1 J;have q:=m b (by simp [j]);have Q:=(s a H x).1 i;have S:=(s b q x).1 I;have w:a≠b:=(by rintro rfl;exact B j);have K:∀ a b,a∈kids n->b∈kids n->a≠b->¬ Reach kids a b:=by
        intro a b H j E G;cases G with
        | here=>exact E rfl
        | @step p _ u M=>
          obtain rfl:p=n:=(A.par _ _ M).symm.trans (A.par _ _ j);have U:=u.le F;have V:=F.down _ _ H;omega
       rcases qHp A Q S with h | h
       ·exact K a b H q w h
       ·exact K b a q H (fun e=>w e.symm) h
    exact this _ (A.once n) (fun k h=>h)
theorem zF1 (F:Falls kids μ N) {f:Nat} (h:N<f) (n:Int) (rest:List Int):(n::rest).flatMap (preF kids f)=n::(kids n++rest).flatMap (preF kids f):=by
 rw [List.flatMap_cons,qG8 F (by omega:N<μ n+f),List.flatMap_append];rfl
theorem zGz (F:Falls kids μ N):∀ f n p k,N<μ n+f->Reach kids n p->k∈kids p->∃ a b c,preF kids f n=a++p::b++k::c:=by
 intro f;induction f with
 | zero=>intro n p k h;have:=F.top n;omega
 | succ f I=>
   intro n p k h i H;rw [preF];rcases i.first with rfl | ⟨q,g,j⟩
   ·have:k∈(kids p).flatMap (preF kids f):=List.mem_flatMap.2 ⟨k,H,(qXn F f k k (by have:=F.down p k H;omega)).2 .here⟩;obtain ⟨b,c,e⟩:=List.append_of_mem this;exact ⟨[],b,c,by rw [e];simp⟩
   ·obtain ⟨a,b,c,e⟩:=I q p k (by have:=F.down n q g;omega) j H;obtain ⟨m,s,E⟩:=List.append_of_mem g;rw [E,List.flatMap_append,List.flatMap_cons,e];exact ⟨n::(m.flatMap (preF kids f)++a),b,c++s.flatMap (preF kids f),by simp⟩
end
def qVr (d:Dc) (n:Int):List Int:=if isM d n false then (nd d n).shadow++(nd d n).kids else []
section
variable {d:Dc} {r:Int->Nat}
theorem zVq (g:G0 qQk 16 r d):Falls (qVr d) (fun n=>if isM d n false then r n else 0) 16:=by
 refine ⟨fun n k H=>?_,fun n=>?_⟩
 ·unfold qVr at H;split at H
  ·rename_i h;obtain ⟨e,i,j⟩:=(qZ9 g h).1 H;have:=(g.rank k e).2 i (fun h=>h);rw [if_pos h,if_pos e];rw [j] at this;omega
  ·simp at H
 ·split
  ·rename_i h;exact (g.rank n h).1
  ·exact Nat.zero_le _
theorem zY5 (g:G0 qQk 16 r d):Alone (qVr d) (fun k=>(nd d k).up):=by
 refine ⟨fun n k H=>?_,fun n=>?_⟩
 ·unfold qVr at H;split at H
  ·rename_i h;exact ((qZ9 g h).1 H).2.2
  ·simp at H
 ·unfold qVr;split
  ·rename_i h;refine List.nodup_append.2 ⟨(g.ok n).once true,(g.ok n).once false,?_⟩;intro a m b p e;subst e;have j:=(g.kid n true a h m).2.2.1;have i:=(g.kid n false a h p).2.2.1;rw [j] at i;simp at i
  ·simp
theorem all_pre (g:G0 qQk 16 r d):∀ f n,isM d n false=true->allF d f n=preF (qVr d) f n:=by
 intro f;induction f with
 | zero=>intro n _;rfl
 | succ f I=>
   intro n H;rw [preF,allF,if_pos H];have e:qVr d n=(nd d n).shadow++(nd d n).kids:=(by unfold qVr;rw [if_pos H]);rw [e];congr 1;have:∀ L:List Int,(∀ k∈L,isM d k false=true)->L.flatMap (allF d f)=L.flatMap (preF (qVr d) f):=by
    intro L;induction L with
    | nil=>intro _;rfl
    | cons a L j=>
      intro i;simp only [List.flatMap_cons];rw [I a (i a (by simp)),j (fun k h=>i k (by simp [h]))]
   exact this _ (fun k h=>((qZ9 g H).1 h).1)
theorem zB5 (g:G0 qQk 16 r d) {n:Int} (h:isM d n false=true):(allM d n).Nodup:=by
 unfold allM;rw [all_pre g 100 n h];exact qX4 (zVq g) (zY5 g) 100 n (by omega)
theorem qBq (g:G0 qQk 16 r d) {n x:Int} (h:isM d n false=true) (H:x∈allM d n):isM d x false=true:=((qXx g 100 n x h (by omega)).1 H).is
theorem zJb (g:G0 qQk 16 r d) {n:Int} (h:isM d n false=true):(allM d n).length<=d.length:=
 qK7 _ _ (zB5 g h) (fun x H=>by have:=qJq (qBq g h H);omega)
end
theorem zZ2 {d:Dc} (g:Good d) {n:Int} (h:isM d n false=true) (H:n≠0):isM d (nd d n).up false=true:=by
 obtain ⟨r,g⟩:=g.tree;exact g.upIs h H (fun h=>h)
theorem qK9 {d:Dc} (g:Good d) (n:Int):(nd d n).kids.length<=12/\(nd d n).shadow.length<=12/\(nd d n).attrs.length<=8:=by
 obtain ⟨r,g⟩:=g.tree;exact ⟨(g.ok n).few false,(g.ok n).few true,(g.ok n).few8⟩
theorem zGv {d:Dc} (l:List Int) (h:∀ x∈l,0<=x/\x.toNat<d.length):(qZn d l).length=d.length:=(qDm l d h).1
theorem zW3 (d:Dc) (l:List Int) (k:Int):qZn d (l++[k])=qZq (qZn d l) k.toNat {}:=by unfold qZn;rw [List.foldl_append];rfl
theorem Falls.tight {kids:Int->List Int} {μ:Int->Nat} {N:Nat} (F:Falls kids μ N) (L:Nat) (j:∀ n k,k∈kids n->0<=n/\n<L):∃ q,Falls kids q L:=by
 refine ⟨fun n=>((List.range L).filter (fun x:Nat=>decide (μ (x:Int)<μ n))).length,fun n k h=>?_,fun n=>?_⟩
 ·have g:=F.down n k h;have u:=j n k h;have H:∀ l:List Nat,(l.filter (fun x:Nat=>decide (μ (x:Int)<μ n))).length<=(l.filter (fun x:Nat=>decide (μ (x:Int)<μ k))).length:=by
   intro l;induction l with
   | nil=>simp
   | cons a l i=>
     simp only [List.filter_cons,decide_eq_true_eq];split
     ·rw [if_pos (by omega)];simp;exact i
     ·split
      ·simp;omega
      ·exact i
  obtain ⟨m,p,e⟩:=List.append_of_mem (List.mem_range.2 (show n.toNat<L by omega));rw [e];simp only [List.filter_append,List.filter_cons,List.length_append,decide_eq_true_eq];rw [if_neg (by rw [show ((n.toNat:Nat):Int)=n by omega];omega),if_pos (by rw [show ((n.toNat:Nat):Int)=n by omega];exact g)];have A:=H m;have s:=H p;simp only [List.length_cons];omega
 ·exact Nat.le_trans (List.length_filter_le _ _) (by simp)
def nameT:Txt:=[110,97,109,101]
def said (d:Dc) (n:Int) (s:Txt):Txt:=(qKr d n s).getD []
def qXo (d:Dc) (host:Int) (want:Txt) (k:Int):Bool:=decide ((nd d k).tag=qJr)&&decide (qQ3 d k=host)&&decide (said d k nameT=want)
def slotR (d:Dc) (n:Int):Int:=
 if !isM d n false||(nd d n).inS||decide ((nd d n).up<0) then -1
 else if !(nd d (nd d n).up).hasS then -1
 else (((nd d (nd d n).up).shadow.flatMap (allM d)).find? (qXo d (nd d n).up (said d n qJr))).getD (-1)
def qYe (d:Dc) (s:Int):Bool:=isM d s true&&decide ((nd d s).tag=qJr)
def givenR (d:Dc) (s:Int):List Int:=
 if qYe d s then (nd d (qQ3 d s)).kids.filter (fun k=>decide (slotR d k=s)) else []
def kidsR (d:Dc) (n:Int):List Int:=
 if !isM d n false then [] else if (nd d n).hasS then (nd d n).shadow else if (givenR d n).isEmpty then (nd d n).kids else givenR d n
def upR (d:Dc) (n:Int):Int:=(((List.range d.length).find? (fun k:Nat=>(kidsR d (k:Int)).contains n)).map (fun k=>(k:Int))).getD (-1)
def shownR (d:Dc):List Int:=preF (kidsR d) 100 0
section
variable {d:Dc} {r:Int->Nat}
theorem qH7 (g:G0 qQk 16 r d) {n:Int} (h:isM d n false=true) :
 (qQ3 d n=0/\∀ x,Und d x n->(nd d x).inS=false)∨(∃ x,Und d x n/\(nd d x).inS=true/\x≠0/\qQ3 d n=(nd d x).up/\∀ y,Und d y n->Und d x y->y≠x->(nd d y).inS=false):=by
 have K:∀ f n,isM d n false=true->r n<f ->
  ((pathF d f n).find? (fun k=>(nd d k).inS&&decide (0<=(nd d k).up))=none/\∀ x,Und d x n->(nd d x).inS=false) ∨
  (∃ x,Und d x n/\(nd d x).inS=true/\x≠0/\(pathF d f n).find? (fun k=>(nd d k).inS&&decide (0<=(nd d k).up))=some x/\∀ y,Und d y n->Und d x y->y≠x->(nd d y).inS=false):=by
  intro f;induction f with
  | zero=>intro n _ h;omega
  | succ f I=>
    intro n h z;rw [pathF,if_pos h];by_cases i:n=0
    ·subst i;have E:pathF d f (nd d 0).up=[]:=(by cases f <;> simp [pathF,qDt g]);left;rw [E];refine ⟨by simp [g.root.2.2.2.2],fun x q=>?_⟩;cases q with
     | here _=>exact g.root.2.2.2.2
     | step _ h _=>exact absurd rfl h
    ·have u:=g.upIs h i (fun h=>h);have w:=(qQh.1 u).1;have B:=(g.rank n h).2 i (fun h=>h);cases H:(nd d n).inS with
     | true=>
       right;refine ⟨n,.here h,H,i,?_,fun y m s p=>?_⟩
       ·rw [List.find?_cons];simp [H,w]
       ·exfalso;have a:=m.le g;have b:=s.le g;cases m with
        | here _=>exact p rfl
        | step _ _ j=>have:=j.le g;omega
     | false=>
       rcases I _ u (by omega) with ⟨a,b⟩ | ⟨x,a,b,c,e,F⟩
       ·left;refine ⟨by rw [List.find?_cons];simp [H,a],fun x q=>?_⟩;cases q with
        | here _=>exact H
        | step _ _ j=>exact b x j
       ·right;refine ⟨x,.step h i a,b,c,by rw [List.find?_cons];simp [H,e],fun y m s p=>?_⟩;cases m with
        | here _=>exact H
        | step _ _ j=>exact F y j s p
 have A:=zJh g h;unfold qQ3 qFi;rcases K (d.length+1) n h (by omega) with ⟨a,b⟩ | ⟨x,a,b,c,e,f⟩
 ·left;rw [a];exact ⟨rfl,b⟩
 ·right;exact ⟨x,a,b,c,by rw [e];rfl,f⟩
theorem und_comp {a b x:Int} (ha:Und d a x) (H:Und d b x):Und d a b∨Und d b a:=by
 induction ha with
 | here h=>exact .inr H
 | @step y e g i I=>
   cases H with
   | here h=>exact .inl (.step e g i)
   | step _ _ h=>exact I h
theorem zBt (g:G0 qQk 16 r d) {n h:Int} (i:isM d n false=true) (s:qQ3 d n=h) (m:h≠0):∃ c,c∈(nd d h).shadow/\Und d c n/\isM d h true=true:=by
 rcases qH7 g i with ⟨a,-⟩ | ⟨x,a,b,c,e,f⟩
 ·omega
 ·have j:=a.top;have:=g.up x j c (fun h=>h);rw [<- e,s] at this;refine ⟨x,?_,a,this.1⟩;have H:=this.2;unfold qJa listM at H;rw [b] at H;exact H
theorem qV4 (g:G0 qQk 16 r d) {n s:Int} (h:slotR d n=s) (B:0<=s):isM d n false=true/\n≠0/\(nd d n).inS=false/\(nd d (nd d n).up).hasS=true/\qYe d s=true/\qQ3 d s=(nd d n).up/\(nd d n).up≠0/\∃ c∈(nd d (nd d n).up).shadow,Und d c s:=by
 unfold slotR at h;split at h
 ·omega
 ·rename_i i;simp at i;split at h
  ·omega
  ·rename_i m;simp at m;have q:n≠0:=by
    rintro rfl;have:=g.root.2.2.1;omega
   have A:=g.upIs i.1.1 q (fun h=>h);cases j:((nd d (nd d n).up).shadow.flatMap (allM d)).find? (qXo d (nd d n).up (said d n qJr)) with
   | none=>rw [j] at h;simp at h;omega
   | some k=>
     rw [j] at h;simp at h;subst h;have H:=List.find?_some j;have w:=List.mem_of_find?_eq_some j;unfold qXo at H;simp at H;obtain ⟨c,p,z⟩:=List.mem_flatMap.1 w;have y:=(g.kid _ true c A p).1;have u:=(qXx g 100 c k y (by omega)).1 z;refine ⟨i.1.1,q,i.1.2,m,?_,H.1.2,?_,c,p,u⟩
     ·unfold qYe;simp only [Bool.and_eq_true,decide_eq_true_eq];exact ⟨qJe.2 ⟨u.is,by rw [H.1.1];decide⟩,H.1.1⟩
     ·intro e;have:=g.root.2.2.2.1;rw [<- e,m] at this;simp at this
end
def upP (d:Dc) (n:Int):Int:=
 if !isM d n false||decide ((nd d n).up<0) then -1
 else if (nd d n).inS then (nd d n).up
 else if (nd d (nd d n).up).hasS then slotR d n
 else if decide ((nd d (nd d n).up).tag=qJr)&&!(givenR d (nd d n).up).isEmpty then -1
 else (nd d n).up
section
variable {d:Dc} {r:Int->Nat}
theorem qDy {s k:Int}:k∈givenR d s↔qYe d s=true/\k∈(nd d (qQ3 d s)).kids/\slotR d k=s:=by
 unfold givenR;split
 ·rename_i h;simp [h]
 ·rename_i h;simp [h]
theorem qVx {s:Int} (h:qYe d s=true):isM d s false=true/\(nd d s).tag=qJr:=by
 unfold qYe at h;simp only [Bool.and_eq_true,decide_eq_true_eq] at h;exact ⟨qZ0 h.1,h.2⟩
theorem qJs (g:G0 qQk 16 r d) {n k:Int}:k∈kidsR d n↔isM d n false=true/\upP d k=n:=by
 constructor
 ·intro h;unfold kidsR at h;split at h
  ·simp at h
  ·rename_i H;have H:isM d n false=true:=(by simpa using H);have j:=(qQh.1 H).1;refine ⟨H,?_⟩;split at h
   ·rename_i s;obtain ⟨a,b,c,e,-⟩:=g.kid n true k H h;unfold upP;rw [if_neg (by simp [a,b];omega),if_pos c,b]
   ·rename_i s;split at h
    ·rename_i hg;obtain ⟨a,b,c,e,-⟩:=g.kid n false k H h;unfold upP;rw [if_neg (by simp [a,b];omega),if_neg (by simp [c]),b,if_neg s,if_neg (by simp [hg])]
    ·obtain ⟨a,b,c⟩:=qDy.1 h;obtain ⟨S,q,w,y,m,z,E,-⟩:=qV4 g c j;have D:=g.upIs S q (fun h=>h);have:=(qQh.1 D).1;unfold upP;rw [if_neg (by simp [S];omega),if_neg (by simp [w]),if_pos y,c]
 ·rintro ⟨H,h⟩;have j:=(qQh.1 H).1;unfold upP at h;split at h
  ·omega
  ·rename_i p;simp at p;have B:k≠0:=(by rintro rfl;have:=g.root.2.2.1;omega);obtain ⟨U,u⟩:=g.up k p.1 B (fun h=>h);unfold kidsR;rw [if_neg (by simp [H])];split at h
   ·rename_i i;rw [h,i] at u;unfold qJa listM at u;rw [if_pos rfl] at u;rw [if_pos ?_]
    ·exact u
    ·cases s:(nd d n).hasS with
     | true=>rfl
     | false=>rw [(g.ok n).hs s] at u;simp at u
   ·rename_i i;have A:(nd d k).inS=false:=(by simpa using i);rw [A] at u;unfold qJa listM at u;simp only [Bool.false_eq_true,if_false] at u;split at h
    ·rename_i c3;obtain ⟨S,q,w,y,m,z,E,-⟩:=qV4 g h j;have hg:k∈givenR d n:=qDy.2 ⟨m,by rw [z];exact u,h⟩;rw [if_neg (by rw [(g.ok n).slot (qVx m).2];simp),if_neg (by intro e;rw [List.isEmpty_iff] at e;rw [e] at hg;simp at hg)];exact hg
    ·rename_i c3;split at h
     ·omega
     ·rename_i c4;rw [h] at c3 c4 u;rw [if_neg c3,if_pos ?_]
      ·exact u
      ·simp only [Bool.and_eq_true,decide_eq_true_eq,Bool.not_eq_true',not_and,Bool.not_eq_false] at c4;cases s:qYe d n with
       | false=>unfold givenR;simp [s]
       | true=>exact c4 (qVx s).2
theorem qWr (g:G0 qQk 16 r d) {n k:Int} (h:k∈kidsR d n):isM d n false=true/\isM d k false=true/\k≠0:=by
 obtain ⟨a,b⟩:=(qJs g).1 h;refine ⟨a,?_⟩;have H:=(qQh.1 a).1;unfold upP at b;split at b
 ·omega
 ·rename_i e;simp at e;exact ⟨e.1,by rintro rfl;have:=g.root.2.2.1;omega⟩
theorem zQ7 (g:G0 qQk 16 r d) (n:Int):upP d n = -1∨isM d (upP d n) false=true:=by
 unfold upP;split
 ·exact .inl rfl
 ·rename_i e;simp at e;have q:n≠0:=by rintro rfl;have:=g.root.2.2.1;omega
  have H:=g.upIs e.1 q (fun h=>h);split
  ·exact .inr H
  ·split
   ·by_cases h:0<=slotR d n
    ·obtain ⟨-,-,-,-,s,-⟩:=qV4 g rfl h;exact .inr (qVx s).1
    ·left;unfold slotR at h ⊢;split
     ·rfl
     ·rename_i c3;rw [if_neg c3] at h;split
      ·rfl
      ·rename_i c4;rw [if_neg c4] at h;cases i:((nd d (nd d n).up).shadow.flatMap (allM d)).find? (qXo d (nd d n).up (said d n qJr)) with
       | none=>rfl
       | some k=>
         exfalso;rw [i] at h;obtain ⟨c,j,p⟩:=List.mem_flatMap.1 (List.mem_of_find?_eq_some i);have m:=(g.kid _ true c H j).1;have:=(qQh.1 ((qXx g 100 c k m (by omega)).1 p).is).1;simp at h;omega
   ·split
    ·exact .inl rfl
    ·exact .inr H
theorem qGk (g:G0 qQk 16 r d) (n:Int):upR d n=upP d n:=by
 unfold upR;rcases zQ7 g n with h | h
 ·rw [h];have:(List.range d.length).find? (fun k:Nat=>(kidsR d (k:Int)).contains n)=none:=by
   rw [List.find?_eq_none];intro k _ j;have:=((qJs g).1 (List.contains_iff_mem.1 j)).2;omega
  rw [this];rfl
 ·have e:=qJq h;cases H:(List.range d.length).find? (fun k:Nat=>(kidsR d (k:Int)).contains n) with
  | none=>
    exfalso;rw [List.find?_eq_none] at H;refine H (upP d n).toNat (List.mem_range.2 e.1) ?_;rw [e.2];exact List.contains_iff_mem.2 ((qJs g).2 ⟨h,rfl⟩)
  | some k=>
    have i:=List.find?_some H;have:=((qJs g).1 (List.contains_iff_mem.1 i)).2;simp [this]
theorem qFu (g:G0 qQk 16 r d) (n:Int):(kidsR d n).Nodup:=by
 unfold kidsR;split
 ·simp
 ·split
  ·exact (g.ok n).once true
  ·split
   ·exact (g.ok n).once false
   ·unfold givenR;split
    ·exact ((g.ok _).once false).filter _
    ·simp
theorem zVa (g:G0 qQk 16 r d):Alone (kidsR d) (upP d):=⟨fun _ _ h=>((qJs g).1 h).2,qFu g⟩
def qVp (x:Nd):Nat:=if x.inS then 1 else 2
def zQx (d:Dc):Nat->Int->Nat
 | 0,_=>0
 | f+1,n=>3*zQx d f (nd d n).up+qVp (nd d n)
theorem codeF_lt (d:Dc):∀ f n,zQx d f n+1<=3 ^ f:=by
 intro f;induction f with
 | zero=>intro n;simp [zQx]
 | succ f i=>
   intro n;have:=i (nd d n).up;have h:qVp (nd d n)<=2:=(by unfold qVp;split <;> omega);rw [zQx,Nat.pow_succ];omega
def qF3 (d:Dc) (r:Int->Nat) (n:Int):Nat:=zQx d (r n) n*3 ^ (17 - r n)
theorem qG7 (g:G0 qQk 16 r d) {n:Int} (h:isM d n false=true) (H:n≠0):zQx d (r n) n=3*zQx d (r (nd d n).up) (nd d n).up+qVp (nd d n)/\3 ^ (17 - r (nd d n).up)=3*3 ^ (17 - r n):=by
 have e:=g.rank n h;have i:=e.2 H (fun h=>h);refine ⟨by rw [i,zQx],?_⟩;rw [show 17 - r (nd d n).up=(17 - r n)+1 by omega,Nat.pow_succ,Nat.mul_comm]
theorem zG5 (g:G0 qQk 16 r d) {a b:Int} (h:Und d a b):(zQx d (r b) b+1)*3 ^ (17 - r b)<=(zQx d (r a) a+1)*3 ^ (17 - r a):=by
 induction h with
 | here _=>exact Nat.le_refl _
 | @step x H i j I=>
   refine Nat.le_trans ?_ I;obtain ⟨A,e⟩:=qG7 g H i;have m:qVp (nd d x)<=2:=(by unfold qVp;split <;> omega);rw [A,e,<- Nat.mul_assoc];exact Nat.mul_le_mul_right _ (by omega)
theorem zFh (g:G0 qQk 16 r d) {n:Int} (h:isM d n false=true) (H:n≠0):qF3 d r (nd d n).up<qF3 d r n:=by
 obtain ⟨A,e⟩:=qG7 g h H;unfold qF3;rw [A,e,<- Nat.mul_assoc];refine Nat.mul_lt_mul_of_pos_right ?_ (Nat.pow_pos (by omega));have:1<=qVp (nd d n):=by unfold qVp;split <;> omega
 omega
theorem place_le (g:G0 qQk 16 r d) {n:Int} (h:isM d n false=true):qF3 d r n<=3 ^ 17:=by
 have H:=(g.rank n h).1;have e:=codeF_lt d (r n) n;have:3 ^ (r n)*3 ^ (17 - r n)=3 ^ 17:=by rw [<- Nat.pow_add];congr 1;omega
 unfold qF3;rw [<- this];exact Nat.mul_le_mul_right _ (by omega)
theorem zXk (g:G0 qQk 16 r d):Falls (kidsR d) (fun n=>if isM d n false then qF3 d r n else 0) (3 ^ 17):=by
 refine ⟨fun n k i=>?_,fun n=>?_⟩
 ·obtain ⟨a,b,c⟩:=qWr g i;rw [if_pos a,if_pos b];have H:=((qJs g).1 i).2;have q:=(qQh.1 a).1;have j:=zFh g b c;unfold upP at H;split at H
  ·omega
  ·split at H
   ·rw [<- H];exact j
   ·rename_i e;have e:(nd d k).inS=false:=(by simpa using e);split at H
    ·obtain ⟨-,-,-,-,F,G,-,cc,S,B⟩:=qV4 g H q;have s:=g.upIs b c (fun h=>h);obtain ⟨K,u,y,z,-⟩:=g.kid _ true cc s S;have E:=zG5 g B;obtain ⟨p,P⟩:=qG7 g K z;obtain ⟨Q,A⟩:=qG7 g b c;rw [u] at p P;have D:qVp (nd d cc)=1:=(by unfold qVp;rw [y];rfl);have m:qVp (nd d k)=2:=(by unfold qVp;rw [e];rfl);unfold qF3;have w:3 ^ (17 - r cc)=3 ^ (17 - r k):=by
      have:=P.symm.trans A;exact Nat.eq_of_mul_eq_mul_left (by omega) this
     rw [p,D,w] at E;rw [Q,m];refine Nat.lt_of_lt_of_le ?_ E;exact Nat.mul_lt_mul_of_pos_right (by omega) (Nat.pow_pos (by omega))
    ·split at H
     ·omega
     ·rw [<- H];exact j
 ·split
  ·rename_i h;exact place_le g h
  ·exact Nat.zero_le _
theorem qJ9 (g:G0 qQk 16 r d):∃ μ,Falls (kidsR d) μ d.length:=
 (zXk g).tight d.length (fun n k h=>by have:=qJq (qWr g h).1;omega)
def qH8 (d:Dc) (n:Int):Int:=
 if !isM d n false||decide ((nd d n).up<0)||(nd d n).inS||!(nd d (nd d n).up).hasS then -1
 else ((allM d (nd d n).up).find? (fun k=>qXo d (nd d n).up (said d n qJr) k&&decide (k≠(nd d n).up))).getD (-1)
theorem ends (g:G0 qQk 16 r d) {n:Int} (h:isM d n false=true) {f:Nat} (H:17<=f):Ends d f n:=(grows g f n h (by omega)).ends
theorem zHl (g:G0 qQk 16 r d) {n:Int} (h:isM d n false=true):allM d n=n::((nd d n).shadow.flatMap (allM d)++(nd d n).kids.flatMap (allM d)):=by
 unfold allM;rw [<- zGf (ends g h (f:=100) (by omega)),allF,if_pos h,List.flatMap_append]
theorem find_and {p q:Int->Bool} {l:List Int} (h:∀ k∈l,p k=true->q k=true):l.find? (fun k=>p k&&q k)=l.find? p:=by
 induction l with
 | nil=>rfl
 | cons a l i=>
   rw [List.find?_cons,List.find?_cons];cases e:p a with
   | false=>simp only [Bool.false_and];exact i (fun k H=>h k (by simp [H]))
   | true=>rw [h a (by simp) e];rfl
theorem slotP_eq (g:G0 qQk 16 r d) (n:Int):qH8 d n=slotR d n:=by
 unfold qH8 slotR;by_cases j:isM d n false=true
 ·by_cases q:(nd d n).up<0
  ·simp [q]
  ·by_cases c3:(nd d n).inS=true
   ·simp [c3]
   ·by_cases c4:(nd d (nd d n).up).hasS=true
    ·simp only [j,q,c3,c4,Bool.not_true,Bool.false_or,decide_false,Bool.false_eq_true,if_false];congr 1;have V:n≠0:=(by rintro rfl;have:=g.root.2.2.1;omega);have p:=g.upIs j V (fun h=>h);have U:(nd d n).up≠0:=by
      intro e;have:=g.root.2.2.2.1;rw [<- e,c4] at this;simp at this
     rw [zHl g p,List.find?_cons];have I:(qXo d (nd d n).up (said d n qJr) (nd d n).up&&decide ((nd d n).up≠(nd d n).up))=false:=(by simp);rw [I];dsimp only;have M:((nd d (nd d n).up).kids.flatMap (allM d)).find? (fun k=>qXo d (nd d n).up (said d n qJr) k&&decide (k≠(nd d n).up))=none:=by
      rw [List.find?_eq_none];intro k z u;obtain ⟨c,w,y⟩:=List.mem_flatMap.1 z;obtain ⟨K,m,A,B,-⟩:=g.kid _ false c p w;have H:=(qXx g 100 c k K (by omega)).1 y;unfold qXo at u;simp at u;obtain ⟨i,F,G,-⟩:=zBt g H.is u.1.1.2 U;obtain ⟨W,J,X,Y,-⟩:=g.kid _ true i p F;have E:∀ a b,(nd d a).up=(nd d n).up->(nd d b).up=(nd d n).up->isM d a false=true->a≠0->Und d a b->a=b:=by
       intro a b P T S ha0 Q;cases Q with
       | here _=>rfl
       | step _ _ D=>
         rw [T] at D;have O:=D.le g;have s:=(g.rank a S).2 ha0 (fun h=>h);rw [P] at s;omega
      have:c=i:=by
       rcases und_comp H G with h | h
       ·exact E c i m J K B h
       ·exact (E i c J m W Y h).symm
      rw [this,X] at A;simp at A
     rw [List.find?_append,M,Option.or_none];refine find_and (fun k z _=>?_);obtain ⟨c,w,y⟩:=List.mem_flatMap.1 z;obtain ⟨K,m,A,B,-⟩:=g.kid _ true c p w;have H:=(qXx g 100 c k K (by omega)).1 y;have O:=H.le g;have s:=(g.rank c K).2 B (fun h=>h);simp only [decide_eq_true_eq];rintro rfl;rw [m] at s;omega
    ·simp [c4,j,q,c3]
 ·simp [j]
theorem zWo (g:G0 qQk 16 r d) {s:Int} (h:qYe d s=true):qXl d s (qQ3 d s)=true/\s≠qQ3 d s:=by
 obtain ⟨H,p⟩:=qVx h;have m:s≠0:=by rintro rfl;have:=g.root.2.1;rw [p] at this;exact absurd this (by decide)
 rw [zZl g H];rcases qH7 g H with ⟨a,-⟩ | ⟨x,a,b,c,e,-⟩
 ·rw [a];exact ⟨Und.root g H,m⟩
 ·have i:=a.top;have u:=g.upIs i c (fun h=>h);rw [e];refine ⟨a.trans (.step i c (.here u)),?_⟩;intro E;have q:=a.le g;have j:=(g.rank x i).2 c (fun h=>h);rw [<- E] at j;omega
theorem zKv (g:G0 qQk 16 r d) {s:Int} (h:(nd d (qQ3 d s)).hasS=false):givenR d s=[]:=by
 rw [List.eq_nil_iff_forall_not_mem];intro k H;obtain ⟨a,b,c⟩:=qDy.1 H;obtain ⟨-,-,-,S,-,e,-⟩:=qV4 g c (qQh.1 (qVx a).1).1;rw [e,S] at h;simp at h
end
def NoS (d:Dc):Prop:=∀ x∈d,x.hasS=false
theorem NoS.ofNd {d:Dc} (h:NoS d) (n:Int):(nd d n).hasS=false:=by
 unfold Proofs.YtkhkbifdakikcaaGreatDoor.nd;rcases Nat.lt_or_ge n.toNat d.length with e | e
 ·rw [List.getElem?_eq_getElem e];exact h _ (List.getElem_mem e)
 ·rw [List.getElem?_eq_none e];rfl
theorem NoS.with {d:Dc} (h:NoS d) (k:Nat) {x:Nd} (e:x.hasS=false):NoS (qZq d k x):=by
 unfold qZq;split
 ·intro y H;rcases List.mem_append.1 H with H | H
  ·exact h y H
  ·simp at H;subst H;exact e
 ·intro y H;rcases List.mem_or_eq_of_mem_set H with H | rfl
  ·exact h y H
  ·exact e
theorem NoS.put {d:Dc} (h:NoS d) (k t before:Int) (sh:Bool):NoS (putM d k t before sh).2:=by
 unfold putM;split
 ·intro x H;simp at H
 ·split
  ·intro x H;simp at H
  ·split
   ·intro x H;simp at H
   ·refine NoS.with h _ ?_;rw [(qWb _ _ _).2.2.2.2.2.1];exact h.ofNd t
theorem NoS.take {d:Dc} (h:NoS d) (k:Int):NoS (qZ5 d k):=NoS.with h _ (h.ofNd _)
theorem NoS.blanks {d:Dc} (l:List Int):NoS d->NoS (qZn d l):=by
 induction l generalizing d with
 | nil=>intro h;exact h
 | cons a l i=>intro h;exact i (NoS.with h _ rfl)
theorem NoS.change {d:Dc} (h:NoS d) {x:Chg} (H:x.kind≠8):NoS (qQ8 d x).2.2:=by
 have e:NoS []:=by intro x H;simp at H
 unfold qQ8;split
 ·unfold qD4;split
  ·exact e
  ·split
   ·exact e
   ·split
    ·exact e
    ·exact NoS.put (d:=qZq (qZ5 d x.node) x.node.toNat { nd d x.node with up:=x.dest,inS:=false }) (NoS.with (d:=qZ5 d x.node) (h.take x.node) x.node.toNat (x:={ nd d x.node with up:=x.dest,inS:=false }) (h.ofNd x.node)) x.node x.dest x.before false
 ·split
  ·unfold removeM;split
   ·exact e
   ·exact NoS.blanks _ (h.take _)
  ·split
   ·unfold sayM;split
    ·exact e
    ·exact NoS.with h _ (h.ofNd _)
   ·split
    ·exact e
    ·split
     ·unfold qK1;split
      ·exact e
      ·split
       ·exact e
       ·split
        ·exact e
        ·exact NoS.with h _ (h.ofNd _)
     ·split
      ·unfold qGq;split
       ·exact e
       ·exact NoS.with h _ (h.ofNd _)
      ·unfold qXk;split
       ·exact e
       ·split
        ·exact e
        ·split
         ·exact e
         ·unfold qBt;split
          ·exact e
          ·exact NoS.put (NoS.with h _ (by unfold qZ7;split <;> rfl)) _ _ _ _
theorem NoS.build {l:List Chg} (e:∀ x∈l,x.kind≠8):NoS (buildM l):=by
 have:∀ (l:List Chg) (d:Dc),(∀ x∈l,x.kind≠8)->NoS d->NoS (l.foldl zQm d):=by
  intro l;induction l with
  | nil=>intro d _ h;exact h
  | cons x l i=>
    intro d e h;refine i _ (fun y H=>e y (by simp [H])) ?_;unfold zQm;split
    ·unfold qQ7;split
     ·exact fun y H=>by simp at H
     ·split
      ·exact fun y H=>by simp at H
      ·split
       ·intro y H;exact NoS.change h (e x (by simp)) y (List.mem_of_mem_take H)
       ·exact fun y H=>by simp at H
    ·exact h
 refine this l _ e ?_;intro y H;simp [rootD] at H;subst H;rfl
theorem qZs {d:Dc} (g:Good d):(shownR d).Nodup/\∀ n∈shownR d,isM d n false=true:=by
 obtain ⟨r,G⟩:=g.tree;obtain ⟨μ,F⟩:=qJ9 G;have i:=g.len;refine ⟨qX4 F (zVa G) 100 0 (by omega),fun n H=>?_⟩;have e:=(qXn F 100 0 n (by omega)).1 H;cases e with
 | here=>exact G.is0
 | step _ h=>exact (qWr G h).2.1
theorem zYa {d:Dc} (g:Good d) {j:Nat} (h:j<(shownR d).length) (y:(shownR d)[j]≠0):(shownR d)[j]∈kidsR d (upR d (shownR d)[j])/\upR d (shownR d)[j]∈(shownR d).take j:=by
 have A:=(qZs g).1;obtain ⟨r,G⟩:=g.tree;obtain ⟨μ,F⟩:=qJ9 G;have J:=g.len;have i:=(qXn F 100 0 _ (by omega)).1 (List.getElem_mem h);generalize m:(shownR d)[j]=x at *
 cases i with
 | here=>exact absurd rfl y
 | @step p _ i H=>
   have B:upR d x=p:=(by rw [qGk G];exact ((qJs G).1 H).2);rw [B];refine ⟨H,?_⟩;obtain ⟨a,b,c,e⟩:=zGz F 100 0 p x (by omega) i H;have E:shownR d=(a++p::b)++x::c:=e;have I:(a++p::b).length=j:=by
    have z:(shownR d)[(a++p::b).length]?=some x:=(by rw [E];simp);have D:(shownR d)[j]?=some x:=(by rw [List.getElem?_eq_getElem h,m]);obtain ⟨s,u⟩:=List.getElem?_eq_some_iff.1 z;have w:=List.pairwise_iff_getElem.1 A;rcases Nat.lt_trichotomy (a++p::b).length j with q | q | q
    ·exact absurd (u.trans m.symm) (w _ _ s h q)
    ·exact q
    ·exact absurd (m.trans u.symm) (w _ _ h s q)
   rw [E,List.take_append_of_le_length (by omega),List.take_of_length_le (by omega)];simp
structure Clm where
 owner:Int
 kid:Int
 deriving DecidableEq
variable {sh:Bool} {a b before c k n o t x:Int} {par:Int->Int} {C l:List Clm} {R f:Nat}
def ownerM (l:List Clm) (n:Int):Int:=((l.find? (fun c=>c.kid==n)).map (·.owner)).getD (-1)
def inM (d:Dc) (l:List Clm) (n:Int):Int:=if 0<=ownerM l n then ownerM l n else upR d n
def qQp (d:Dc) (l:List Clm) (n:Int):List Int:=(kidsR d n).filter (fun k=>decide (ownerM l k<0))++(l.filter (fun c=>c.owner==n)).map (·.kid)
def qZ3 (up:Int->Int):Nat->Int->List Int
 | 0,_=>[]
 | f+1,n=>if n<0 then [] else n::qZ3 up f (up n)
structure Rises (up:Int->Int) (μ:Int->Nat):Prop where
 up:∀ n,0<=n->0<=up n->μ (up n)<μ n
inductive On (up:Int->Int):Int->Int->Prop
 | here {n:Int}:0<=n->On up n n
 | step {n x:Int}:0<=n->On up (up n) x->On up n x
section
variable {up:Int->Int} {μ:Int->Nat}
theorem On.ge (h:On up n x):0<=n:=by cases h <;> assumption
theorem On.le (R:Rises up μ) (h:On up n x):μ x<=μ n:=by
 induction h with
 | here _=>exact Nat.le_refl _
 | @step n x H e i=>have:=R.up n H e.ge;omega
theorem zXm (R:Rises up μ):∀ f n x,μ n<f->(x∈qZ3 up f n↔On up n x):=by
 intro f;induction f with
 | zero=>intro n x h;omega
 | succ f i=>
   intro n x h;rw [qZ3];split
   ·rename_i H;constructor
    ·intro h;simp at h
    ·intro h;have:=h.ge;omega
   ·rename_i H;rw [List.mem_cons];by_cases u:0<=up n
    ·have:=R.up n (by omega) u;rw [i (up n) x (by omega)];constructor
     ·rintro (rfl | h)
      ·exact .here (by omega)
      ·exact .step (by omega) h
     ·intro h;cases h with
      | here _=>exact .inl rfl
      | step _ h=>exact .inr h
    ·have e:qZ3 up f (up n)=[]:=(by cases f <;> simp [qZ3];omega);rw [e];constructor
     ·rintro (rfl | h)
      ·exact .here (by omega)
      ·simp at h
     ·intro h;cases h with
      | here _=>exact .inl rfl
      | step _ h=>have:=h.ge;omega
theorem zW2 (R:Rises up μ):∀ f n,μ n<f->qZ3 up (f+1) n=qZ3 up f n:=by
 intro f;induction f with
 | zero=>intro n h;omega
 | succ f i=>
   intro n h;have e:∀ f n,qZ3 up (f+1) n=if n<0 then [] else n::qZ3 up f (up n):=fun _ _=>rfl
   rw [e (f+1) n,e f n];by_cases H:n<0
   ·rw [if_pos H,if_pos H]
   ·rw [if_neg H,if_neg H];congr 1;by_cases u:0<=up n
    ·have:=R.up n (by omega) u;exact i (up n) (by omega)
    ·rw [e,if_pos (by omega)];cases f with
     | zero=>rfl
     | succ f=>rw [e,if_pos (by omega)]
open Classical in
theorem Rises.owned (R:Rises up μ) (m:¬ On up o k):∃ p,Rises (fun n=>if n=k then o else up n) p:=by
 refine ⟨fun n=>if On up n k then μ n+(μ o+1) else μ n,⟨fun n g u=>?_⟩⟩;by_cases e:n=k
 ·subst e;rw [if_pos rfl] at u ⊢;rw [if_neg m,if_pos (.here g)];omega
 ·rw [if_neg e] at u ⊢;have i:=R.up n g u;by_cases H:On up n k
  ·have j:On up (up n) k:=by
    cases H with
    | here _=>exact absurd rfl e
    | step _ h=>exact h
   rw [if_pos H,if_pos j];omega
  ·rw [if_neg H,if_neg (fun h=>H (.step g h))];exact i
end
theorem Rises.tight {up:Int->Int} {μ:Int->Nat} (R:Rises up μ) (L:Nat) (m:∀ n,0<=n->0<=up n->up n<L):∃ g,Rises up g/\∀ n,g n<=L:=by
 refine ⟨fun n=>((List.range L).filter (fun x:Nat=>decide (μ (x:Int)<μ n))).length,⟨fun n h u=>?_⟩,fun n=>?_⟩
 ·have j:=R.up n h u;have w:=m n h u;have H:∀ l:List Nat,(l.filter (fun x:Nat=>decide (μ (x:Int)<μ (up n)))).length<=(l.filter (fun x:Nat=>decide (μ (x:Int)<μ n))).length:=by
   intro l;induction l with
   | nil=>simp
   | cons a l i=>
     simp only [List.filter_cons,decide_eq_true_eq];split
     ·rw [if_pos (by omega)];simp;exact i
     ·split
      ·simp;omega
      ·exact i
  obtain ⟨p,q,e⟩:=List.append_of_mem (List.mem_range.2 (show (up n).toNat<L by omega));rw [e];simp only [List.filter_append,List.filter_cons,List.length_append,decide_eq_true_eq];rw [if_neg (by rw [show (((up n).toNat:Nat):Int)=up n by omega];omega),if_pos (by rw [show (((up n).toNat:Nat):Int)=up n by omega];exact j)];have A:=H p;have s:=H q;simp only [List.length_cons];omega
 ·exact Nat.le_trans (List.length_filter_le _ _) (by simp)
def ownsT:Txt:=[97,114,105,97,45,111,119,110,115]
def idT:Txt:=[105,100]
def findD (d:Dc) (n:Int) (id:Txt):Int:=
 if id.isEmpty||!isM d n false then -1
 else ((allM d 0).find? (fun k=>decide (said d k idT=id)&&decide (qQ3 d k=qQ3 d n))).getD (-1)
def onB (d:Dc) (l:List Clm) (n k:Int):Bool:=(qZ3 (inM d l) 100 n).contains k
def qZi (d:Dc) (n:Int) (l:List Clm) (id:Txt):List Clm:=
 if findD d n id<1||!(shownR d).contains (findD d n id)||decide (0<=ownerM l (findD d n id))||onB d l n (findD d n id) then l else l++[⟨n,findD d n id⟩]
def qZ8 (d:Dc) (l:List Clm) (n:Int):List Clm:=(toks (said d n ownsT)).foldl (qZi d n) l
def qQv (d:Dc):List Clm:=(shownR d).foldl (qZ8 d) []
structure ClmOk (d:Dc) (l:List Clm):Prop where
 rises:∃ μ,Rises (inM d l) μ
 once:(l.map (·.kid)).Nodup
 kid:∀ c∈l,c.kid∈shownR d/\1<=c.kid
 owner:∀ c∈l,c.owner∈shownR d
theorem qH5 (h:∀ c∈l,0<=c.owner):ownerM l n<0↔∀ c∈l,c.kid≠n:=by
 unfold ownerM;cases H:l.find? (fun c=>c.kid==n) with
 | none=>
   rw [List.find?_eq_none] at H;simp at H ⊢;exact H
 | some c=>
   have e:=List.find?_some H;have g:=List.mem_of_find?_eq_some H;have:=h c g;simp at e;constructor
   ·intro h;simp at h;omega
   ·intro h;exact absurd e (h c g)
theorem zB0 (g:ownerM l k<0) (i:∀ c∈l,0<=c.owner):ownerM (l++[⟨o,k⟩]) n=if n=k then o else ownerM l n:=by
 unfold ownerM;rw [List.find?_append];by_cases e:n=k
 ·subst e;have:l.find? (fun c=>c.kid==n)=none:=by
   rw [List.find?_eq_none];intro c H;simp;exact (qH5 i).1 g c H
  rw [this,if_pos rfl];simp
 ·rw [if_neg e];have:([⟨o,k⟩]:List Clm).find? (fun c=>c.kid==n)=none:=by
   simp;exact fun h=>e h.symm
  rw [this];simp
section
variable {d:Dc}
theorem qHc (g:Good d) (h:n∈shownR d):0<=n:=(qQh.1 ((qZs g).2 n h)).1
theorem ClmOk.owner_ge (g:Good d) (h:ClmOk d l):∀ c∈l,0<=c.owner:=fun c H=>qHc g (h.owner c H)
theorem upR_lt (g:Good d) (n:Int):upR d n<d.length:=by
 obtain ⟨r,G⟩:=g.tree;rw [qGk G];rcases zQ7 G n with h | h
 ·omega
 ·have:=qJq h;omega
theorem inM_lt (g:Good d) (h:ClmOk d l) (n:Int):inM d l n<d.length:=by
 unfold inM;split
 ·rename_i H;unfold ownerM at H ⊢;cases e:l.find? (fun c=>c.kid==n) with
  | none=>rw [e] at H;simp at H
  | some c=>
    have:=qJq ((qZs g).2 _ (h.owner c (List.mem_of_find?_eq_some e)));simp;omega
 ·exact upR_lt g n
theorem ClmOk.tight (g:Good d) (h:ClmOk d l):∃ μ,Rises (inM d l) μ/\∀ n,μ n<100:=by
 obtain ⟨μ,R⟩:=h.rises;obtain ⟨i,e,H⟩:=R.tight d.length (fun n _ _=>inM_lt g h n);have:=g.len;exact ⟨i,e,fun n=>by have:=H n;omega⟩
theorem zH5 (g:Good d) (h:ClmOk d l) :onB d l n k=true↔On (inM d l) n k:=by
 obtain ⟨μ,R,H⟩:=h.tight g;unfold onB;rw [List.contains_iff_mem];exact zXm R 100 n k (H n)
theorem ClmOk.nil (g:Good d):ClmOk d []:=by
 obtain ⟨r,G⟩:=g.tree;obtain ⟨μ,F⟩:=qJ9 G;refine ⟨⟨μ,⟨fun n i H=>?_⟩⟩,by simp,by simp,by simp⟩;have e:inM d [] n=upR d n:=by unfold inM ownerM;simp
 rw [e] at H ⊢;rw [qGk G] at H ⊢;rcases zQ7 G n with h | h
 ·omega
 ·exact F.down _ _ ((qJs G).2 ⟨h,rfl⟩)
theorem ClmOk.step (g:Good d) (h:ClmOk d l) (m:n∈shownR d) (I:Txt):ClmOk d (qZi d n l I):=by
 unfold qZi;split
 ·exact h
 ·rename_i c;simp only [Bool.or_eq_true,decide_eq_true_eq,Bool.not_eq_true',not_or,Bool.not_eq_false] at c;obtain ⟨⟨⟨D,s⟩,c3⟩,c4⟩:=c;generalize findD d n I=k at *
  have y:k∈shownR d:=List.contains_iff_mem.1 s;have E:=qHc g m;obtain ⟨μ,R⟩:=h.rises;have z:¬ On (inM d l) n k:=fun e=>c4 ((zH5 g h).2 e);have j:ownerM l k<0:=by omega
  have p:=h.owner_ge g;refine ⟨?_,?_,?_,?_⟩
  ·obtain ⟨B,q⟩:=R.owned z;refine ⟨B,⟨fun x A u=>?_⟩⟩;have e:inM d (l++[⟨n,k⟩]) x=if x=k then n else inM d l x:=by
    unfold inM;rw [zB0 j p];split
    ·rfl
    ·rfl
   rw [e] at u ⊢;exact q.up x A u
  ·rw [List.map_append,List.nodup_append];refine ⟨h.once,by simp,?_⟩;intro a w b i e;simp at i;obtain ⟨c,H,rfl⟩:=List.mem_map.1 w;exact (qH5 p).1 j c H (e.trans i)
  ·intro c H;rcases List.mem_append.1 H with H | H
   ·exact h.kid c H
   ·simp at H;subst H;exact ⟨y,show 1<=k by omega⟩
  ·intro c H;rcases List.mem_append.1 H with H | H
   ·exact h.owner c H
   ·simp at H;subst H;exact m
theorem ClmOk.of (g:Good d) (H:n∈shownR d):∀ (W:List Txt) (l:List Clm),ClmOk d l->ClmOk d (W.foldl (qZi d n) l):=by
 intro W;induction W with
 | nil=>intro l h;exact h
 | cons w W i=>intro l h;exact i _ (h.step g H w)
theorem ClmOk.all (g:Good d):∀ (s:List Int) (l:List Clm),(∀ n∈s,n∈shownR d)->ClmOk d l->ClmOk d (s.foldl (qZ8 d) l):=by
 intro s;induction s with
 | nil=>intro l _ h;exact h
 | cons n s i=>intro l H h;exact i _ (fun m e=>H m (by simp [e])) (ClmOk.of g (H n (by simp)) _ _ h)
theorem qWk (g:Good d):ClmOk d (qQv d):=ClmOk.all g _ _ (fun _ h=>h) (ClmOk.nil g)
theorem qWy (g:Good d) (h:ClmOk d l):l.length<=60:=by
 have H:=qK7 d.length _ h.once (fun x i=>by
  obtain ⟨c,e,rfl⟩:=List.mem_map.1 i;have:=qJq ((qZs g).2 _ (h.kid c e).1);omega)
 have:=g.len;simp at H;omega
end
abbrev Str:=List UInt8
structure Kd where
 name:Str
 content:Bool:=false
 leaf:Bool:=false
 level:Bool:=false
 checked:Bool:=false
 named:Bool:=false
 need:Int:=0
 deriving DecidableEq
def kOf (r:Int):Kd:=
 if r=1 then { name:=[103,114,111,117,112],named:=true }
 else if r=2 then { name:=[109,97,105,110],named:=true }
 else if r=3 then { name:=[110,97,118,105,103,97,116,105,111,110],named:=true }
 else if r=4 then { name:=[104,101,97,100,105,110,103],named:=true,content:=true,level:=true }
 else if r=5 then { name:=[108,105,115,116],named:=true }
 else if r=6 then { name:=[108,105,115,116,105,116,101,109],level:=true,need:=5 }
 else if r=7 then { name:=[108,105,110,107],named:=true,content:=true }
 else if r=8 then { name:=[98,117,116,116,111,110],named:=true,content:=true,leaf:=true }
 else if r=9 then { name:=[99,104,101,99,107,98,111,120],named:=true,content:=true,leaf:=true,checked:=true }
 else if r=10 then { name:=[116,101,120,116],leaf:=true }
 else if r=11 then { name:=[105,109,103],named:=true,leaf:=true }
 else if r=12 then { name:=[116,101,120,116,98,111,120],named:=true,leaf:=true }
 else if r=13 then { name:=[116,97,98,108,101],named:=true }
 else if r=14 then { name:=[114,111,119],named:=true,content:=true,need:=13 }
 else if r=15 then { name:=[99,101,108,108],named:=true,content:=true,need:=14 }
 else if r=16 then { name:=[114,101,103,105,111,110],named:=true }
 else if r=17 then { name:=[100,105,97,108,111,103],named:=true }
 else if r=18 then { name:=[103,101,110,101,114,105,99] }
 else { name:=[] }
def tags:List (Str×Int):=[([109,97,105,110],2),([110,97,118],3),([104,49],4),([104,50],4),([104,51],4),([117,108],5),([108,105],6),([98,117,116,116,111,110],8),([116,97,98,108,101],13),([116,114],14),([116,100],15),([100,105,97,108,111,103],17)]
def roles:List (Str×Int):=[([103,114,111,117,112],1),([109,97,105,110],2),([110,97,118,105,103,97,116,105,111,110],3),([104,101,97,100,105,110,103],4),([108,105,115,116],5),([108,105,115,116,105,116,101,109],6),([108,105,110,107],7),([98,117,116,116,111,110],8),([99,104,101,99,107,98,111,120],9),([105,109,103],11),([116,101,120,116,98,111,120],12),([116,97,98,108,101],13),([114,111,119],14),([99,101,108,108],15),([114,101,103,105,111,110],16),([100,105,97,108,111,103],17)]
def tagM:List (Str×Int)->Str->Option Int
 | [],_=>none
 | (k,n)::r,s=>if s=k then some n else tagM r s
def qVg (s:Str):Int:=(tagM tags s).getD 18
def sNone:Str:=[110,111,110,101]
def zK6:Str:=[112,114,101,115,101,110,116,97,116,105,111,110]
def zYt:Str:=[116,101,120,116]
def qVj:Str:=[103,101,110,101,114,105,99]
def qVe (s:Str):Int:=if s=sNone∨s=zK6 then 0 else (tagM roles s).getD (-1)
theorem zBx {s:Str} (h:tagM tags s=some n):n=qVg s:=by simp [qVg,h]
theorem zBp {s:Str} (h:tagM tags s=none):18=qVg s:=by simp [qVg,h]
theorem zGp {r:Int} (h:1<=r) (H:r<19):r=1∨r=2∨r=3∨r=4∨r=5∨r=6∨r=7∨r=8∨r=9∨r=10∨r=11∨r=12∨r=13∨r=14∨r=15∨r=16∨r=17∨r=18:=by omega
theorem kOf_out {r:Int} (h:r<1∨18<r):kOf r=kOf 0:=by
 simp only [kOf];repeat rw [if_neg (by omega)]
theorem zDe {r:Int} (m:0<=r) (e:r<19) {s:Str} (h:(kOf r).name=s) (g:s≠[]) (i:s≠zYt) (j:s≠qVj):qVe s=r:=by
 by_cases H:r=0
 ·subst H;exact absurd h.symm g
 ·rcases zGp (by omega) e with rfl | rfl | rfl | rfl | rfl | rfl | rfl | rfl | rfl | rfl | rfl | rfl | rfl | rfl | rfl | rfl | rfl | rfl;all_goals
   subst h
   first
   | rfl
   | exact absurd rfl i
   | exact absurd rfl j
theorem findM_no {s:Str} (h:∀ r:Nat,1<=r->r<18->r≠10->(kOf r).name≠s) (g:s≠sNone) (i:s≠zK6):qVe s = -1:=by
 simp only [qVe,g,i,or_self,if_false];have:tagM roles s=none:=by
  simp only [roles,tagM];rw [if_neg (fun e=>h 1 (by omega) (by omega) (by omega) e.symm)];rw [if_neg (fun e=>h 2 (by omega) (by omega) (by omega) e.symm)];rw [if_neg (fun e=>h 3 (by omega) (by omega) (by omega) e.symm)];rw [if_neg (fun e=>h 4 (by omega) (by omega) (by omega) e.symm)];rw [if_neg (fun e=>h 5 (by omega) (by omega) (by omega) e.symm)];rw [if_neg (fun e=>h 6 (by omega) (by omega) (by omega) e.symm)];rw [if_neg (fun e=>h 7 (by omega) (by omega) (by omega) e.symm)];rw [if_neg (fun e=>h 8 (by omega) (by omega) (by omega) e.symm)];rw [if_neg (fun e=>h 9 (by omega) (by omega) (by omega) e.symm)];rw [if_neg (fun e=>h 11 (by omega) (by omega) (by omega) e.symm)];rw [if_neg (fun e=>h 12 (by omega) (by omega) (by omega) e.symm)];rw [if_neg (fun e=>h 13 (by omega) (by omega) (by omega) e.symm)];rw [if_neg (fun e=>h 14 (by omega) (by omega) (by omega) e.symm)];rw [if_neg (fun e=>h 15 (by omega) (by omega) (by omega) e.symm)];rw [if_neg (fun e=>h 16 (by omega) (by omega) (by omega) e.symm)];rw [if_neg (fun e=>h 17 (by omega) (by omega) (by omega) e.symm)]
 rw [this];rfl
def labelT:Txt:=[97,114,105,97,45,108,97,98,101,108]
def qJu:Txt:=[97,114,105,97,45,108,97,98,101,108,108,101,100,98,121]
def qG2:Txt:=[114,111,108,101]
def zW4:Txt:=[104,114,101,102]
def zQo:Txt:=[116,121,112,101]
def altT:Txt:=[97,108,116]
def titleT:Txt:=[116,105,116,108,101]
def qFs:Txt:=[104,105,100,100,101,110]
def qXs:Txt:=[97,114,105,97,45,104,105,100,100,101,110]
def qV7:Txt:=[99,104,101,99,107,98,111,120]
def qGx:Txt:=[116,114,117,101]
def aT:Txt:=[97]
def qGm:Txt:=[105,110,112,117,116]
def imgT:Txt:=[105,109,103]
def qWq:Txt:=[115,101,99,116,105,111,110]
def sq (d:Dc) (n:Int) (s:Txt):Txt:=qQn (said d n s)
def hasA (d:Dc) (n:Int) (s:Txt):Bool:=(qKr d n s).isSome
def qZr (d:Dc) (n:Int):Bool:=!(sq d n labelT).isEmpty||!(sq d n qJu).isEmpty
def askF (lab:Bool):List Txt->Int
 | []=>-1
 | w::ws=>if qVe w=0/\lab=true then -1 else if 0<=qVe w then qVe w else askF lab ws
def qZl (d:Dc) (n:Int):Int:=
 if (nd d n).tag=aT then (if hasA d n zW4 then 7 else qVg aT)
 else if (nd d n).tag=qGm then (if qKd (sq d n zQo)=qV7 then 9 else 12)
 else if (nd d n).tag=imgT then (if hasA d n altT&&(sq d n altT).isEmpty&&!qZr d n then 0 else 11)
 else if (nd d n).tag=qWq then (if qZr d n||!(sq d n titleT).isEmpty then 16 else qVg qWq)
 else qVg (nd d n).tag
def qWf (d:Dc) (n:Int):Int:=askF (qZr d n) (toks (qKd (said d n qG2)))
def qXh (d:Dc) (n:Int):Int:=if qWf d n<0 then qZl d n else qWf d n
def zKm (d:Dc) (n:Int) (p:Int×Int):Int×Int:=
 let x:=if !isM d n false then 0 else if (nd d n).tag.isEmpty then 10 else if (kOf (qXh d n)).need=0 then qXh d n else if p.2=(kOf (qXh d n)).need then qXh d n else 18
 (x,if x=0∨x=18 then p.2 else x)
def rnF (d:Dc):Nat->Int->Int×Int
 | 0,_=>(0,-1)
 | f+1,n=>if n<0 then (0,-1) else zKm d n (rnF d f (upR d n))
theorem zQt (d:Dc) (f:Nat) (n:Int):rnF d (f+1) n=if n<0 then (0,-1) else zKm d n (rnF d f (upR d n)):=rfl
def qQd (d:Dc) (n:Int):Int:=(rnF d 100 n).1
def qVi (d:Dc) (n:Int):Int:=(rnF d 100 n).2
def offM (d:Dc) (n:Int):Bool:=hasA d n qFs||decide (qKd (sq d n qXs)=qGx)
def hidF (d:Dc):Nat->Int->Bool
 | 0,_=>true
 | f+1,n=>!isM d n false||offM d n||(decide (n≠0)&&hidF d f (upR d n))
def qZa (d:Dc) (n:Int):Bool:=hidF d 100 n
section
variable {d:Dc}
theorem qWz (g:Good d):∃ μ:Int->Nat,(∀ n,μ n<=d.length)/\∀ n,0<=upR d n->μ (upR d n)<μ n:=by
 obtain ⟨r,G⟩:=g.tree;obtain ⟨μ,F⟩:=qJ9 G;refine ⟨μ,F.top,fun n H=>?_⟩;rw [qGk G] at H ⊢;rcases zQ7 G n with h | h
 ·omega
 ·exact F.down _ _ ((qJs G).2 ⟨h,rfl⟩)
theorem rnF_more {μ:Int->Nat} (g:∀ n,0<=upR d n->μ (upR d n)<μ n):∀ f n,μ n<f->rnF d (f+1) n=rnF d f n:=by
 intro f;induction f with
 | zero=>intro n h;omega
 | succ f i=>
   intro n h;have e:rnF d (f+1) (upR d n)=rnF d f (upR d n):=by
    by_cases H:0<=upR d n
    ·have:=g n H;exact i _ (by omega)
    ·rw [zQt,if_pos (by omega)];cases f with
     | zero=>rfl
     | succ f=>rw [zQt,if_pos (by omega)]
   rw [zQt d (f+1) n,zQt d f n,e]
theorem zHv {μ:Int->Nat} (g:∀ n,0<=upR d n->μ (upR d n)<μ n):∀ f n,μ n<f->hidF d (f+1) n=hidF d f n:=by
 intro f;induction f with
 | zero=>intro n h;omega
 | succ f i=>
   intro n h;have e:hidF d (f+1) (upR d n)=hidF d f (upR d n):=by
    by_cases H:0<=upR d n
    ·have:=g n H;exact i _ (by omega)
    ·have:isM d (upR d n) false=false:=(by simp [isM];omega);cases f <;> simp [hidF,this]
   have E:∀ f n,hidF d (f+1) n=(!isM d n false||offM d n||(decide (n≠0)&&hidF d f (upR d n))):=fun _ _=>rfl;rw [E (f+1) n,E f n,e]
theorem zYv (g:Good d) (n:Int) (h:0<=n):qQd d n=(if !isM d n false then 0 else if (nd d n).tag.isEmpty then 10 else if (kOf (qXh d n)).need=0 then qXh d n else if qVi d (upR d n)=(kOf (qXh d n)).need then qXh d n else 18) /\
 qVi d n=if qQd d n=0∨qQd d n=18 then qVi d (upR d n) else qQd d n:=by
 obtain ⟨μ,H,i⟩:=qWz g;have j:=g.len;have e:rnF d 100 n=rnF d 101 n:=(rnF_more i 100 n (by have:=H n;omega)).symm;unfold qQd qVi;rw [e,zQt,if_neg (by omega)];exact ⟨rfl,rfl⟩
theorem zV6 (h:n<0):qVi d n = -1:=by
 unfold qVi;show (rnF d (99+1) n).2 = -1;rw [zQt,if_pos h]
theorem zVz (h:isM d n false=false):qQd d n=0:=by
 unfold qQd;show (rnF d (99+1) n).1=0;rw [zQt];split
 ·rfl
 ·simp [zKm,h]
theorem qFn (g:Good d) (n:Int):qZa d n=(!isM d n false||offM d n||(decide (n≠0)&&qZa d (upR d n))):=by
 obtain ⟨μ,h,H⟩:=qWz g;have i:=g.len;have e:hidF d 100 n=hidF d 101 n:=(zHv H 100 n (by have:=h n;omega)).symm;unfold qZa;rw [e,hidF]
end
def forT:Txt:=[102,111,114]
def lblT:Txt:=[108,97,98,101,108]
def valueT:Txt:=[118,97,108,117,101]
def descT:Txt:=[97,114,105,97,45,100,101,115,99,114,105,98,101,100,98,121]
structure St where
 had:Int->Bool
 asked:Int->Bool
def ups (d:Dc) (n:Int):List Int:=qZ3 (upR d) 100 n
def markM (d:Dc) (n:Int) (s:St):St:={ s with asked:=fun x=>s.asked x||(ups d n).contains x }
def hitM (n:Int) (s:St):St:={ s with had:=fun x=>s.had x||x==n }
def eachF (one:Int->St->Txt×St):List Int->St->List Txt×St
 | [],s=>([],s)
 | k::ks,s=>if 0<=k/\s.had k=false then ((one k s).1::(eachF one ks (one k s).2).1,(eachF one ks (one k s).2).2) else eachF one ks s
def qYq (d:Dc) (one:Int->St->Txt×St) (n:Int) (name:Txt) (s:St):Txt×St:=
 (qQn (join (eachF one ((toks (said d n name)).map (findD d n)) s).1),(eachF one ((toks (said d n name)).map (findD d n)) s).2)
def qXa (d:Dc) (n:Int) (s:St) (k:Int):Bool:=decide ((nd d k).tag=lblT)&&decide (said d k forT=said d n idT)&&decide (qQ3 d k=qQ3 d n)&&!s.had k
def qXm (d:Dc) (one:Int->St->Txt×St) (n:Int) (s:St):Txt×St:=
 if (nd d n).tag=imgT then (sq d n altT,s)
 else if (nd d n).tag=qGm/\said d n idT≠[]/\findD d n (said d n idT)=n then
  match (allM d 0).find? (qXa d n s) with
  | some k=>one k s
  | none=>([],s)
 else ([],s)
def qYh (d:Dc) (C:List Clm) (one:Int->St->Txt×St) (n:Int) (s:St):Txt×St:=
 (qQn (join (eachF one (qQp d C n) s).1),(eachF one (qQp d C n) s).2)
def step1 (d:Dc) (one:Int->Bool->St->Txt×St) (n:Int) (within:Bool) (s:St):Txt×St:=
 if within then ([],s) else qYq d (fun k=>one k true) n qJu s
def qHy (d:Dc) (C:List Clm) (one:Int->Bool->St->Txt×St) (n:Int) (within listed:Bool) (s:St):Txt×St:=
 if within||(kOf (qQd d n)).content then qYh d C (fun k=>one k listed) n s else ([],s)
def step2 (d:Dc) (C:List Clm) (one:Int->Bool->St->Txt×St) (n:Int) (within listed:Bool) (s:St):Txt×St:=
 if sq d n labelT≠[] then (sq d n labelT,s)
 else if within=true/\qQd d n=12 then (sq d n valueT,s)
 else if (qXm d (fun k=>one k false) n s).1≠[] then qXm d (fun k=>one k false) n s
 else if (qHy d C one n within listed (qXm d (fun k=>one k false) n s).2).1≠[] then qHy d C one n within listed (qXm d (fun k=>one k false) n s).2
 else (sq d n titleT,(qHy d C one n within listed (qXm d (fun k=>one k false) n s).2).2)
def qVd (d:Dc) (C:List Clm) (one:Int->Bool->St->Txt×St) (n:Int) (within listed:Bool) (s:St):Txt×St:=
 if !listed&&qZa d n then ([],hitM n (markM d n s))
 else if (nd d n).tag=[] then (qQn (nd d n).text,hitM n (markM d n s))
 else if (step1 d one n within (hitM n (markM d n s))).1≠[] then step1 d one n within (hitM n (markM d n s))
 else step2 d C one n within listed (step1 d one n within (hitM n (markM d n s))).2
def qQs (d:Dc) (C:List Clm):Nat->Int->Bool->Bool->St->Txt×St
 | 0,_,_,_,s=>([],s)
 | f+1,n,within,listed,s=>qVd d C (fun k l s=>qQs d C f k true l s) n within listed s
theorem qDb (d:Dc) (C:List Clm) (f:Nat) (n:Int) (w e:Bool) (s:St):qQs d C (f+1) n w e s=qVd d C (fun k l s=>qQs d C f k true l s) n w e s:=rfl
def qZz (d:Dc) (h:Int->Bool):Nat:=(List.range d.length).countP (fun k:Nat=>!h (k:Int))
theorem qWt (d:Dc) (h:Int->Bool):qZz d h<=d.length:=by
 unfold qZz;exact Nat.le_trans List.countP_le_length (by simp)
theorem zW6:∀ (L k:Nat) (h:Int->Bool),k<L->h (k:Int)=false->(List.range L).countP (fun j:Nat=>!(h (j:Int)||((j:Int)==(k:Int))))+1=(List.range L).countP (fun j:Nat=>!h (j:Int)):=by
 intro L;induction L with
 | zero=>intro k h i;omega
 | succ L I=>
   intro k h i H;rw [List.range_succ,List.countP_append,List.countP_append];by_cases m:k=L
   ·subst m;have e:(List.range k).countP (fun j:Nat=>!(h (j:Int)||((j:Int)==(k:Int))))=(List.range k).countP (fun j:Nat=>!h (j:Int)):=by
     refine List.countP_congr (fun j g=>?_);have g:=List.mem_range.1 g;have:((j:Int)==(k:Int))=false:=(by simp;omega);simp [this]
    rw [e];simp [H]
   ·have:=I k h (by omega) H;have e:((L:Int)==(k:Int))=false:=(by simp;omega);simp only [List.countP_cons,List.countP_nil,e,Bool.or_false];omega
theorem qB8 {d:Dc} {s:St} (e:isM d n false=true) (h:s.had n=false):qZz d (hitM n s).had+1=qZz d s.had:=by
 obtain ⟨k,H,rfl,-⟩:=qQy.1 e;exact zW6 d.length k s.had H h
structure Does (d:Dc) (s:St) (r:Txt×St):Prop where
 had:∀ x,s.had x=true->r.2.had x=true
 asked:∀ x,s.asked x=true->r.2.asked x=true
 len:r.1.length+61*qZz d r.2.had<=61*qZz d s.had
 free:qZz d r.2.had<=qZz d s.had
theorem Does.none {d:Dc} (s:St):Does d s ([],s):=⟨fun _ h=>h,fun _ h=>h,by simp,Nat.le_refl _⟩
structure DoesS (d:Dc) (s:St) (r:Txt×St):Prop where
 had:∀ x,s.had x=true->r.2.had x=true
 asked:∀ x,s.asked x=true->r.2.asked x=true
 len:r.1.length<=60∨r.1.length+61*qZz d r.2.had<=61*qZz d s.had
 free:qZz d r.2.had<=qZz d s.had
theorem Does.s {d:Dc} {s:St} {r:Txt×St} (h:Does d s r):DoesS d s r:=⟨h.had,h.asked,.inr h.len,h.free⟩
theorem DoesS.short {d:Dc} (s:St) {t:Txt} (h:t.length<=60):DoesS d s (t,s):=⟨fun _ h=>h,fun _ h=>h,.inl h,Nat.le_refl _⟩
theorem DoesS.then {d:Dc} {s:St} {r g:Txt×St} (h:DoesS d s r) (k:DoesS d r.2 g):DoesS d s g:=by
 refine ⟨fun x H=>k.had x (h.had x H),fun x H=>k.asked x (h.asked x H),?_,Nat.le_trans k.free h.free⟩;have:=h.free;rcases k.len with e | e
 ·exact .inl e
 ·right;omega
structure DoesL (d:Dc) (s:St) (r:List Txt×St):Prop where
 had:∀ x,s.had x=true->r.2.had x=true
 asked:∀ x,s.asked x=true->r.2.asked x=true
 len:(r.1.map (fun t=>t.length+1)).sum+61*qZz d r.2.had<=61*qZz d s.had
 free:qZz d r.2.had<=qZz d s.had
theorem zVk:∀ l:List Txt,(join l).length<=(l.map (fun t=>t.length+1)).sum
 | []=>by simp [join]
 | [a]=>by simp [join]
 | a::b::l=>by
   have:=zVk (b::l);simp [join] at this ⊢;omega
structure Does1 (d:Dc) (s:St) (r:Txt×St):Prop where
 had:∀ x,s.had x=true->r.2.had x=true
 asked:∀ x,s.asked x=true->r.2.asked x=true
 len:r.1.length+1+61*qZz d r.2.had<=61*qZz d s.had
 free:qZz d r.2.had+1<=qZz d s.had
theorem qBx {d:Dc} {one:Int->St->Txt×St} :∀ (K:List Int) (s:St),(∀ k∈K,k<0∨isM d k false=true) ->
 (∀ k S,isM d k false=true->S.had k=false->qZz d S.had<=qZz d s.had->Does1 d S (one k S))->DoesL d s (eachF one K s):=by
 intro K;induction K with
 | nil=>intro s _ _;exact ⟨fun _ h=>h,fun _ h=>h,by simp [eachF],Nat.le_refl _⟩
 | cons k K i=>
   intro s e H;unfold eachF;split
   ·rename_i p;have I:isM d k false=true:=by
     rcases e k List.mem_cons_self with h | h
     ·omega
     ·exact h
    have o:=H k s I p.2 (Nat.le_refl _);have r:=i (one k s).2 (fun k h=>e k (List.mem_cons_of_mem _ h)) (fun k S a b c=>H k S a b (by have:=o.free;omega));refine ⟨fun x g=>r.had x (o.had x g),fun x g=>r.asked x (o.asked x g),?_,?_⟩
    ·have j:=o.len;have m:=r.len;simp only [List.map_cons,List.sum_cons];omega
    ·have j:=o.free;have m:=r.free;simp only;omega
   ·exact i s (fun k h=>e k (List.mem_cons_of_mem _ h)) H
theorem DoesL.squeezed {d:Dc} {s:St} {r:List Txt×St} (h:DoesL d s r):Does d s (qQn (join r.1),r.2):=by
 refine ⟨h.had,h.asked,?_,h.free⟩;have H:=qY0 (join r.1);have e:=zVk r.1;have g:=h.len;simp only;omega
theorem qD9 {d:Dc} (g:Good d) (n:Int) (i:Txt):findD d n i<0∨isM d (findD d n i) false=true:=by
 unfold findD;split
 ·left;decide
 ·cases h:(allM d 0).find? _ with
  | none=>left;simp
  | some k=>
    right;obtain ⟨r,G⟩:=g.tree;exact qBq G G.is0 (List.mem_of_find?_eq_some h)
theorem qDp {d:Dc} (g:Good d) (hC:∀ c∈C,isM d c.kid false=true) (h:k∈qQp d C n):isM d k false=true:=by
 obtain ⟨r,G⟩:=g.tree;unfold qQp at h;rcases List.mem_append.1 h with h | h
 ·exact (qWr G (List.mem_filter.1 h).1).2.1
 ·obtain ⟨c,H,rfl⟩:=List.mem_map.1 h;exact hC c (List.mem_filter.1 H).1
theorem zBu {d:Dc} (g:Good d) (n:Int) (s:Txt):(said d n s).length<=60:=by
 obtain ⟨r,G⟩:=g.tree;unfold said qKr;split
 ·unfold qJc;cases h:(nd d n).attrs.find? (fun a=>a.name==s) with
  | none=>simp
  | some a=>
    have:=(G.ok n).atts a (List.mem_of_find?_eq_some h);simp;omega
 ·simp
theorem qWo {d:Dc} (g:Good d) (n:Int) (s:Txt):(sq d n s).length<=60:=Nat.le_trans (qY0 _) (zBu g n s)
theorem qHd {d:Dc} (g:Good d) (hC:∀ c∈C,isM d c.kid false=true):∀ (f:Nat) (n:Int) (w i:Bool) (s:St),isM d n false=true->s.had n=false->qZz d s.had<=f->Does1 d s (qQs d C f n w i s)/\(qQs d C f n w i s).2.had n=true:=by
 intro f;induction f with
 | zero=>
   intro n w i s u q K;have:=qB8 u q;omega
 | succ f T=>
   intro n w i s u q K;rw [qDb];have U:=qB8 u q;have H:qZz d (hitM n (markM d n s)).had=qZz d (hitM n s).had:=rfl;have B:∀ t:Txt,t.length<=60->Does1 d s (t,hitM n (markM d n s))/\(t,hitM n (markM d n s)).2.had n=true:=fun t X=>by
    refine ⟨⟨fun x h=>?_,fun x h=>?_,?_,?_⟩,?_⟩
    ·simp [hitM,markM,h]
    ·simp [hitM,markM,h]
    ·simp only [H];omega
    ·simp only [H];omega
    ·simp [hitM]
   have V:qZz d (hitM n (markM d n s)).had<=f:=(by rw [H];omega);have up:∀ r:Txt×St,DoesS d (hitM n (markM d n s)) r->Does1 d s r/\r.2.had n=true:=fun r j=>by
    obtain ⟨A,J⟩:=B [] (by simp);have D:=j.free;refine ⟨⟨fun x h=>j.had x (A.had x h),fun x h=>j.asked x (A.asked x h),?_,?_⟩,j.had n J⟩
    ·rcases j.len with E | E
     ·rw [H] at D;omega
     ·rw [H] at E;omega
    ·rw [H] at D;omega
   have O:∀ (l:Bool) (k:Int) (S:St),isM d k false=true->S.had k=false->qZz d S.had<=qZz d (hitM n (markM d n s)).had->Does1 d S (qQs d C f k true l S):=fun l k S a b c=>(T k true l S a b (by omega)).1;have p:Does d (hitM n (markM d n s)) (step1 d (fun k l s=>qQs d C f k true l s) n w (hitM n (markM d n s))):=by
    unfold step1;split
    ·exact Does.none _
    ·exact (qBx _ _ (fun k e=>by obtain ⟨Q,_,rfl⟩:=List.mem_map.1 e;exact qD9 g n Q) (O true)).squeezed
   unfold qVd;split
   ·exact B [] (by simp)
   ·split
    ·obtain ⟨r,G⟩:=g.tree;exact B _ (Nat.le_trans (qY0 _) (G.ok n).short.1)
    ·split
     ·exact up _ p.s
     ·refine up _ (p.s.then ?_);generalize step1 d (fun k l s=>qQs d C f k true l s) n w (hitM n (markM d n s))=m at *
      have z:DoesS d m.2 (qXm d (fun k=>qQs d C f k true false) n m.2):=by
       unfold qXm;split
       ·exact .short _ (qWo g _ _)
       ·split
        ·split
         ·rename_i k e;obtain ⟨r,G⟩:=g.tree;have M:=List.mem_of_find?_eq_some e;have y:=List.find?_some e;have P:m.2.had k=false:=(by unfold qXa at y;simp at y;exact y.2);have:=O false k m.2 (qBq G G.is0 M) P p.free;exact ⟨this.had,this.asked,.inr (by have:=this.len;simp only at this ⊢;omega),by have:=this.free;simp only at this ⊢;omega⟩
         ·exact (Does.none _).s
        ·exact (Does.none _).s
      unfold step2;split
      ·exact .short _ (qWo g _ _)
      ·split
       ·exact .short _ (qWo g _ _)
       ·split
        ·exact z
        ·refine z.then ?_;have W:=z.free;generalize qXm d (fun k=>qQs d C f k true false) n m.2=I at *
         have F:Does d I.2 (qHy d C (fun k l s=>qQs d C f k true l s) n w i I.2):=by
          unfold qHy;split
          ·exact (qBx _ _ (fun k e=>.inr (qDp g hC e)) (fun k S a b c=>O i k S a b (by have:=p.free;omega))).squeezed
          ·exact Does.none _
         split
         ·exact F.s
         ·exact F.s.then (.short _ (qWo g _ _))
