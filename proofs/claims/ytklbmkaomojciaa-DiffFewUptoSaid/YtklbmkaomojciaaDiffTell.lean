/- diff.one: what is told otherwise, walked. -/
import Derived.Test.YtklbmkaomojciaaDiffDrop
set_option maxRecDepth 100000
set_option maxHeartbeats 4000000
namespace Go.Proofs.Ytklbmkaomojciaa
open Go.RowKit
theorem qWp {α : Type} (f f' : Int -> α) {x : Int} : ∀ {l : List Int}, l.Nodup -> x ∈ l -> (∀ k, k ≠ x -> f' k = f k) -> l.map f' = (l.map f).set (l.idxOf x) (f' x) := by
 intro l
 induction l with
 | nil => intro _ h; simp at h
 | cons a l ih =>
   intro hn hx he
   by_cases e : a = x
   · subst e
     rw [List.idxOf_cons_self]
     simp only [List.map_cons, List.set_cons_zero]
     congr 1
     refine List.map_congr_left (fun k hk => he k (fun e => ?_))
     subst e
     exact (List.nodup_cons.1 hn).1 hk
   · have hx2 : x ∈ l := (List.mem_cons.1 hx).resolve_left (fun h => e h.symm)
     have hb : (a == x) = false := by simpa using e
     rw [List.idxOf_cons, hb]
     simp only [cond_false, List.map_cons, List.set_cons_succ]
     rw [he a e, ih (List.nodup_cons.1 hn).2 hx2 he]
theorem qHo {α : Type} {enc : α -> List Value} {l : List α} {C vs : List Value} {i : Nat} {y : α} (he : ∀ x, (enc x).length = 8) (hi : i < l.length) (ht : C.take (l.length * 8) = l.flatMap enc) (hv : vs = enc y) : (C.take (i * 8) ++ vs ++ C.drop (i * 8 + 8)).take ((l.set i y).length * 8) = (l.set i y).flatMap enc := by
 subst hv
 obtain ⟨D, hD⟩ : ∃ D, D = C.drop (l.length * 8) := ⟨_, rfl⟩
 have hCD : C = l.flatMap enc ++ D := by rw [<- ht, hD, List.take_append_drop]
 have hl : l = l.take i ++ l[i] :: l.drop (i + 1) := by rw [<- List.drop_eq_getElem_cons hi, List.take_append_drop]
 have hA : ((l.take i).flatMap enc).length = i * 8 := by rw [qQk he, List.length_take, Nat.min_eq_left (by omega)]
 have hB : ((l.drop (i + 1)).flatMap enc).length = (l.length - (i + 1)) * 8 := by rw [qQk he, List.length_drop]
 have hf : l.flatMap enc = (l.take i).flatMap enc ++ (enc l[i] ++ (l.drop (i + 1)).flatMap enc) := by
  conv => lhs; rw [hl]
  rw [List.flatMap_append, List.flatMap_cons]
 have h1 : C.take (i * 8) = (l.take i).flatMap enc := by rw [hCD, hf, List.append_assoc, <- hA, List.take_left]
 have h2 : C.drop (i * 8 + 8) = (l.drop (i + 1)).flatMap enc ++ D := by
  rw [hCD, hf, List.append_assoc, List.append_assoc, <- List.append_assoc]
  have : ((l.take i).flatMap enc ++ enc l[i]).length = i * 8 + 8 := by rw [List.length_append, hA, he]
  rw [<- this, List.drop_left]
 rw [h1, h2, List.set_eq_take_append_cons_drop, if_pos hi, List.flatMap_append, List.flatMap_cons]
 have h3 : (l.take i ++ y :: l.drop (i + 1)).length * 8 = ((l.take i).flatMap enc ++ (enc y ++ (l.drop (i + 1)).flatMap enc)).length := by
  simp only [List.length_append, hA, hB, he, List.length_cons, List.length_take, List.length_drop, Nat.min_eq_left (Nat.le_of_lt hi)]
  omega
 have h4 : (l.take i).flatMap enc ++ enc y ++ ((l.drop (i + 1)).flatMap enc ++ D) = ((l.take i).flatMap enc ++ (enc y ++ (l.drop (i + 1)).flatMap enc)) ++ D := by simp only [List.append_assoc]
 rw [h3, h4, List.take_left]
theorem qJ4 (g : Nat) : ∀ (vs : List Value) (o : Nat) (w : World) {b : Nat}, b ≠ g -> (w.setCells g o vs).heap[b]? = w.heap[b]? := by
 intro vs
 induction vs with
 | nil => intro o w b _; rfl
 | cons v vs ih =>
   intro o w b hb
   exact (ih (o + 1) _ hb).trans (Below.heap_setCell _ _ _ _ hb)
theorem told_own {base : Nat} {w W0 : World} {S : Int -> Sv} {lab : Nat -> Int} {t : Fl} (h : qQg base w S lab t) (hw : Wf t) {x : Int} (hx : Has t x) {hd : Hd} {g cap : Nat} (hS : (S (t.par x)).v = .slice (some ⟨g, 0, none⟩) (t.kids (t.par x)).length cap) (hB : Bel w W0) {kv : Value} :
 qQg base ((W0.setCells g ((t.kids (t.par x)).idxOf x * 8) (qQd hd kv)).setCell ⟨g, (t.kids (t.par x)).idxOf x * 8 + 7, none⟩ (S x).v) S lab (qZp t x hd) /\
 (∀ b, b ≠ g -> ((W0.setCells g ((t.kids (t.par x)).idxOf x * 8) (qQd hd kv)).setCell ⟨g, (t.kids (t.par x)).idxOf x * 8 + 7, none⟩ (S x).v).heap[b]? = W0.heap[b]?) /\ W0.grownBy ((W0.setCells g ((t.kids (t.par x)).idxOf x * 8) (qQd hd kv)).setCell ⟨g, (t.kids (t.par x)).idxOf x * 8 + 7, none⟩ (S x).v) (some g) := by
 have hp := hw.par_has hx
 have h0 := h.bel hB
 have hlt : (t.kids (t.par x)).idxOf x < (t.kids (t.par x)).length := List.idxOf_lt_length_of_mem hx
 have hlen : (List.map (icOf t S) (t.kids (t.par x))).length = (t.kids (t.par x)).length := by simp
 have hG : W0.grownBy ((W0.setCells g ((t.kids (t.par x)).idxOf x * 8) (qQd hd kv)).setCell ⟨g, (t.kids (t.par x)).idxOf x * 8 + 7, none⟩ (S x).v) (some g) := qQn (qQz _ _ _ _) (qHi _ _ _ _)
 rcases blkE qQf (show qQc 8 (fun _ cs x => cs = encIts x) base 35 W0 (S (t.par x)).v ((t.kids (t.par x)).map (icOf t S)) from (h0 _ hp).1) with ⟨_, e⟩ | ⟨g', cap', C, hS', hbg, hK, hCl, hle, hcm, ht⟩
 · exfalso
   rw [List.map_eq_nil_iff] at e
   rw [e] at hlt
   simp at hlt
 have hsame := hS.symm.trans hS'
 simp only [Value.slice.injEq, Option.some.injEq, Addr.mk.injEq] at hsame
 obtain ⟨⟨rfl, -, -⟩, -, rfl⟩ := hsame
 have hblock : ∀ b, b ≠ g -> ((W0.setCells g ((t.kids (t.par x)).idxOf x * 8) (qQd hd kv)).setCell ⟨g, (t.kids (t.par x)).idxOf x * 8 + 7, none⟩ (S x).v).heap[b]? = W0.heap[b]? := fun b hb => by
  rw [Below.heap_setCell _ _ _ _ hb]
  exact qJ4 _ _ _ _ hb
 refine ⟨fun n hn => ?_, hblock, hG⟩
 refine ⟨?_, (h0 n hn).2⟩
 by_cases e : n = t.par x
 · subst e
   have hm : ((qZp t x hd).kids (t.par x)).map (icOf (qZp t x hd) S) = ((t.kids (t.par x)).map (icOf t S)).set ((t.kids (t.par x)).idxOf x) ⟨hd, (S x).a, (S x).n, (S x).c⟩ := by
    have := qWp (icOf t S) (icOf (qZp t x hd) S) (hw.alone.once (t.par x)) hx (fun k hk => by
     unfold icOf qZp
     simp only [if_neg hk])
    rw [show (qZp t x hd).kids = t.kids from rfl, this]
    congr 1
    unfold icOf qZp
    simp only [if_true]
   rw [hm, hS]
   have hkc : (t.kids (t.par x)).idxOf x * 8 + 8 <= C.length := by rw [hCl]; rw [hlen] at hle; omega
   have h1 := (qZa g 35 (qQd hd kv) ((t.kids (t.par x)).idxOf x * 8) W0 C hK (by simpa [qQd] using hkc)).set ((t.kids (t.par x)).idxOf x * 8 + 7) (S x).v
   have hA : (C.take ((t.kids (t.par x)).idxOf x * 8)).length = (t.kids (t.par x)).idxOf x * 8 := by rw [List.length_take, Nat.min_eq_left (by omega)]
   have hset : (C.take ((t.kids (t.par x)).idxOf x * 8) ++ qQd hd kv ++ C.drop ((t.kids (t.par x)).idxOf x * 8 + (qQd hd kv).length)).set ((t.kids (t.par x)).idxOf x * 8 + 7) (S x).v = C.take ((t.kids (t.par x)).idxOf x * 8) ++ qQd hd (S x).v ++ C.drop ((t.kids (t.par x)).idxOf x * 8 + 8) := by
    rw [List.append_assoc, List.set_append_right _ _ (by omega), hA, show (t.kids (t.par x)).idxOf x * 8 + 7 - (t.kids (t.par x)).idxOf x * 8 = 7 by omega, List.append_assoc]
    rfl
   rw [hset] at h1
   have hkl : (t.kids (t.par x)).idxOf x < (List.map (icOf t S) (t.kids (t.par x))).length := by rw [hlen]; exact hlt
   have h2 := qHo (y := (⟨hd, (S x).a, (S x).n, (S x).c⟩ : Ic)) (vs := qQd hd (S x).v) qQf hkl ht rfl
   exact ownE qQf h1 hbg (by simp) (by
    rw [List.length_append, List.length_append, hA, List.length_drop, show (qQd hd (S x).v).length = 8 from rfl, <- hCl]
    omega) (by simpa using hle) hcm h2
 · have hm : ((qZp t x hd).kids n).map (icOf (qZp t x hd) S) = (t.kids n).map (icOf t S) := List.map_congr_left (fun k hk => by
    have : k ≠ x := fun e2 => e (by
     subst e2
     exact (hw.alone.par n k hk).symm)
    unfold icOf qZp
    simp only [if_neg this])
   rw [hm]
   refine (h0 n hn).1.agree (fun b hb => hblock b (fun e2 => ?_)) (fun _ _ _ hr => by unfold rdIc at hr ⊢; exact hr)
   subst e2
   exact h0.apart hn hp e hb (by rw [hS]; rfl)
theorem qHw {base : Nat} {w W0 : World} {S : Int -> Sv} {lab : Nat -> Int} {t : Fl} (h : qQg base w S lab t) (hw : Wf t) {box : Addr} (hb : BoxOk w box S t) {x : Int} (hx : Has t x) {hd : Hd} {g cap : Nat} (hS : (S (t.par x)).v = .slice (some ⟨g, 0, none⟩) (t.kids (t.par x)).length cap) (hB : Bel w W0) {kv : Value} :
 Grew base box w S t ((W0.setCells g ((t.kids (t.par x)).idxOf x * 8) (qQd hd kv)).setCell ⟨g, (t.kids (t.par x)).idxOf x * 8 + 7, none⟩ (S x).v) (qZp t x hd) := by
 have hp := hw.par_has hx
 obtain ⟨h1, h2, h3⟩ := told_own h hw hx (hd := hd) hS hB (kv := kv)
 have hgb : box.block ≠ g := fun e => hb.apart _ hp (by rw [hS, e]; rfl)
 have hb0 := hb.bel hB
 refine Grew.of_bel hB ⟨S, lab, h1, ⟨(World.cell?_of_block (h2 _ hgb)).trans hb0.cell, (World.frozen?_of_block (h2 _ hgb)).trans hb0.open', Nat.lt_of_lt_of_le hb0.lt h3.size, hb0.apart⟩, ⟨h3.os, h3.tape, h3.output, h3.size, fun b _ _ a3 => h2 b (fun e => a3 _ hp (by rw [hS, e]; rfl)), fun n hn b hb' => .inr ⟨n, hn, hb'⟩, Side.of_block (fun _ => h2 _ hgb)⟩⟩
theorem thenAny {K : Act -> World -> Prop} {Q : Exit -> Act -> World -> Prop} {e : Exit} {a : Act} {W : World} {E : World -> Prop} (hE : E W) (h : ∀ w, E w -> Exit.then K Q e a w) : Exit.then K Q e a W := h W hE
theorem qX6 {base : Nat} {w : World} {S : Int -> Sv} {lab : Nat -> Int} {t : Fl} (hT : qQg base w S lab t) (hw : Wf t) (hh : ∀ n, Has t n -> (t.head n).node = n) {box : Addr} (hb : BoxOk w box S t) {x a b : Int} {hd : Hd} {eb eo : Nat} (hE : EvC w eb eo ⟨4, x, a, b, .mk hd []⟩ (.slice none 0 0))
 (hx : Has t x) (hdx : hd.node = x) :
 Calls Try.prog 15 #[.pointer (some box), .pointer (some ⟨eb, eo, none⟩)] w fun e w' => e = .returned (.int .i64 0) /\ Grew base box w S t w' (qZp t x hd) := by
 subst hdx
 have hp := hw.par_has hx
 have hlt : (t.kids (t.par hd.node)).idxOf hd.node < (t.kids (t.par hd.node)).length := List.idxOf_lt_length_of_mem hx
 have cF := lH (qZt hT hw hh hb hx)
 have hcc0 := hT.rd.cell hw hb.cell hp
 rcases blkE qQf (show qQc 8 (fun _ cs y => cs = encIts y) base 35 w (S (t.par hd.node)).v ((t.kids (t.par hd.node)).map (icOf t S)) from (hT _ hp).1) with ⟨_, e⟩ | ⟨g, cap, C, hS, hbg, hK, hCl, hle, hcm, ht⟩
 · exfalso
   unfold Has at hx
   simp at e
   rw [e] at hx
   simp at hx
 have hlen : (List.map (icOf t S) (t.kids (t.par hd.node))).length = (t.kids (t.par hd.node)).length := by simp
 rw [hlen] at hS hle ht
 obtain ⟨b', off, cap', q1, q2, q3, _, hI⟩ := hT.rd.item hp _ hlt
 rw [List.getElem_idxOf hlt] at hI
 have hq : (S (t.par hd.node)).v = Value.slice (some ⟨b', off, none⟩) (t.kids (t.par hd.node)).length cap' := q1
 rw [hS] at hq
 simp at hq
 obtain ⟨⟨rfl, rfl⟩, rfl⟩ := hq
 rw [hS] at hcc0
 have hcne : (qQe box t (fun n => (S n).v) (t.par hd.node)).block ≠ g := by
  rcases hT.cell hw hp box with ⟨_, e⟩ | ⟨hk, g2, cap2, hSp, e⟩
  · rw [e]; exact fun e2 => hb.apart _ hp (by rw [hS, e2]; rfl)
  · rw [e]
    have hpp := hw.par_has hk
    refine fun e2 => hT.apart hpp hp ?_ (b := g) (by rw [hSp]; show some g2 = some g; rw [show g2 = g from e2]) (by rw [hS]; rfl)
    intro e3
    obtain ⟨μ, N, F⟩ := hw.falls
    have := F.down _ _ hk
    rw [e3] at this
    omega
 have k0 := hI.node
 have k1 := hI.role
 have k2 := hI.name
 have k3 := hI.about
 have k4 := hI.level
 have k5 := hI.checked
 have k6 := hI.off
 have k7 : w.cell? ⟨g, 0 + (t.kids (t.par hd.node)).idxOf hd.node * 8 + 7, none⟩ = some (.slice (S hd.node).a (S hd.node).n (S hd.node).c) := hI.kids
 simp only [Nat.zero_add] at k0 k1 k2 k3 k4 k5 k6 k7
 obtain ⟨hd', hhd⟩ : ∃ y, y = t.head hd.node := ⟨_, rfl⟩
 rw [<- hhd] at k0 k1 k2 k3 k4 k5 k6
 obtain ⟨z0, hz0⟩ : ∃ y, y = hd.node := ⟨_, rfl⟩
 have ek : w.cell? ⟨eb, eo, none⟩ = some (.int .i64 4) := hE.kind
 have en : w.cell? ⟨eb, eo + 1, none⟩ = some (.int .i64 hd.node) := hE.node
 have z4 : w.cell? ⟨eb, eo + 4, none⟩ = some (.int .i64 hd.node) := hE.i0
 have z5 : w.cell? ⟨eb, eo + 5, none⟩ = some (.int .i64 hd.role) := hE.i1
 have z6 : w.cell? ⟨eb, eo + 6, none⟩ = some (.string ⟨hd.name.toArray⟩) := hE.i2
 have z7 : w.cell? ⟨eb, eo + 7, none⟩ = some (.string ⟨hd.about.toArray⟩) := hE.i3
 have z8 : w.cell? ⟨eb, eo + 8, none⟩ = some (.int .i64 hd.level) := hE.i4
 have z9 : w.cell? ⟨eb, eo + 9, none⟩ = some (.int .i64 hd.checked) := hE.i5
 have z10 : w.cell? ⟨eb, eo + 10, none⟩ = some (.bool hd.off) := hE.i6
 have z11 : w.cell? ⟨eb, eo + 11, none⟩ = some (.slice none 0 0) := hE.i7
 have hf : ∀ j, w.frozen? ⟨g, j, none⟩ = false := hK.frozen
 have f0 := hf ((t.kids (t.par hd.node)).idxOf hd.node * 8)
 have f1 := hf ((t.kids (t.par hd.node)).idxOf hd.node * 8 + 1)
 have f2 := hf ((t.kids (t.par hd.node)).idxOf hd.node * 8 + 2)
 have f3 := hf ((t.kids (t.par hd.node)).idxOf hd.node * 8 + 3)
 have f4 := hf ((t.kids (t.par hd.node)).idxOf hd.node * 8 + 4)
 have f5 := hf ((t.kids (t.par hd.node)).idxOf hd.node * 8 + 5)
 have f6 := hf ((t.kids (t.par hd.node)).idxOf hd.node * 8 + 6)
 have f7 := hf ((t.kids (t.par hd.node)).idxOf hd.node * 8 + 7)
 have hltz : (((t.kids (t.par hd.node)).idxOf hd.node : Nat) : Int) < ((t.kids (t.par hd.node)).length : Int) := by omega
 have HG : Hid (∀ W0, Bel w W0 -> (W0.setCells g ((t.kids (t.par hd.node)).idxOf hd.node * 8) (qQd hd (.slice none 0 0))).cell? (qQe box t (fun n => (S n).v) (t.par hd.node)) = some (.slice (some ⟨g, 0, none⟩) (t.kids (t.par hd.node)).length cap) /\ (∃ u, (W0.setCells g ((t.kids (t.par hd.node)).idxOf hd.node * 8) (qQd hd (.slice none 0 0))).cell? ⟨g, (t.kids (t.par hd.node)).idxOf hd.node * 8 + 7, none⟩ = some u) /\ (W0.setCells g ((t.kids (t.par hd.node)).idxOf hd.node * 8) (qQd hd (.slice none 0 0))).frozen? ⟨g, (t.kids (t.par hd.node)).idxOf hd.node * 8 + 7, none⟩ = false /\ Grew base box w S t ((W0.setCells g ((t.kids (t.par hd.node)).idxOf hd.node * 8) (qQd hd (.slice none 0 0))).setCell ⟨g, (t.kids (t.par hd.node)).idxOf hd.node * 8 + 7, none⟩ (S hd.node).v) (qZp t hd.node hd)) := lH (fun W0 hB => by
  have h1 := qZa g 35 (qQd hd (.slice none 0 0)) ((t.kids (t.par hd.node)).idxOf hd.node * 8) W0 C (hK.bel hB) (by rw [hCl]; simp [qQd]; omega)
  refine ⟨?_, ?_, h1.frozen _, qHw hT hw hb hx hS hB⟩
  · rw [World.cell?_of_block (qJ4 g _ _ _ hcne), World.cell?_of_block (hB.block _ (World.block_lt_of_cell? _ _ hcc0))]
    exact hcc0
  · rw [h1.cell]
    have : (t.kids (t.par hd.node)).idxOf hd.node * 8 + 7 < (C.take ((t.kids (t.par hd.node)).idxOf hd.node * 8) ++ qQd hd (.slice none 0 0) ++ C.drop ((t.kids (t.par hd.node)).idxOf hd.node * 8 + (qQd hd (.slice none 0 0)).length)).length := by
     simp only [List.length_append, List.length_take, List.length_drop, hCl, show (qQd hd (.slice none 0 0)).length = 8 from rfl]
     omega
    exact ⟨_, List.getElem?_eq_getElem this⟩)
 clear hE hI hf hS hT hb hK ht
 generalize qQe box t (fun n => (S n).v) (t.par hd.node) = ca at *
 generalize (t.kids (t.par hd.node)).idxOf hd.node = k at *
 generalize (t.kids (t.par hd.node)).length = L at *
 go_enter Try.func15, Try.ntmps15
 go_upto_region 20 with (go_at_call 17; (with_reducible refine cF.out.mono ?_); rintro e w1 ⟨rfl, rfl⟩)
 go_quiet (fail)
 go_upto_region 14 with fail
 go_region
 refine thenAny (E := fun W => W.cell? ca = some (.slice (some ⟨g, 0, none⟩) L cap) /\ (∃ u, W.cell? ⟨g, k * 8 + 7, none⟩ = some u) /\ W.frozen? ⟨g, k * 8 + 7, none⟩ = false /\ Grew base box w S t (W.setCell ⟨g, k * 8 + 7, none⟩ (S hd.node).v) (qZp t hd.node hd)) (HG.out (w.drewN (nq + 1)) (qKn (Bel.refl w) _)) ?_
 rintro W1 ⟨c1, ⟨u, c2⟩, c3, c4⟩
 have HC4 := lH c4
 clear c4 HG cF
 go_wp2
 go_ret
 exact ⟨rfl, HC4.out⟩
end Go.Proofs.Ytklbmkaomojciaa
