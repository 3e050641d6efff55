/- The document's names, walked: a node's name. -/
import Derived.Test.YtklbmkaomojciaaGreatRefNam
import Derived.Test.YtklbmkaomojciaaGreatRefPutW
set_option maxRecDepth 100000
set_option maxHeartbeats 4000000
namespace Go.Proofs.YtklbmkaomojciaaGreat
open Go.RowKit
theorem qW3 {m g h u : Nat} {dv cv : Value} {X : List Value} {e : TypeId} {d : Dc} {C : List Clm} (gd : Good d) (hC : ∀ c ∈ C, isM d c.kid false = true) (hCl : C.length <= 1000) : ∀ (F : Nat) (n : Int) (within listed : Bool) (s : St) (W : World),
 NmAt m g h u dv cv X e d C W s -> isM d n false = true -> s.had n = false -> qZa d s.had <= F ->
 Calls Tryz.prog 65 #[.pointer (some ⟨g, 0, none⟩), .int .i64 n, .bool within, .bool listed] W (Rm W h u (.string ⟨(qQi d C F n within listed s).1.toArray⟩) (fun w' => NmAt m g h u dv cv X e d C w' (qQi d C F n within listed s).2)) := by
 intro F
 induction F with
 | zero =>
   intro n within listed s W k hn hh hf
   have := qYt hn hh
   omega
 | succ F ih =>
 intro n within listed s W k hn hh hf
 have H1 : zKr 65 m g h u dv cv X e d C F := fun x li s' W' k' hx hs' hf' => ih x true li s' W' k' hx hs' hf'
 have hfh := qYt hn hh
 obtain ⟨p, hp, rfl, -⟩ := qQq.1 hn
 obtain ⟨b, off, cap, av, kv, sv, rfl, v1, v2, hbb, hN⟩ := k.mem.doc.node p hp
 have kI0 := qVz qJx
 have c1t := hN.tag
 have c2t := hN.text
 have HTG : Hid (∀ w' s', NmM m g h u (.slice (some ⟨b, off, none⟩) d.length cap) cv X e d C w' s' -> w'.cell? ⟨b, off + p * 9 + 1, none⟩ = some (.string ⟨d[p].tag.toArray⟩)) := lH (fun w' s' hk => qBn hk.doc hp)
 have HTX : Hid (∀ w' s', NmM m g h u (.slice (some ⟨b, off, none⟩) d.length cap) cv X e d C w' s' -> w'.cell? ⟨b, off + p * 9 + 2, none⟩ = some (.string ⟨d[p].text.toArray⟩)) := lH (fun w' s' hk => zQn hk.doc hp)
 obtain ⟨s1, hs1⟩ : ∃ x, x = hitM (p : Int) (markM d (p : Int) s) := ⟨_, rfl⟩
 have HF1 : qZa d s1.had <= F := by rw [hs1]; show qZa d (hitM (p : Int) s).had <= F; omega
 obtain ⟨r1, hr1⟩ : ∃ r1, r1 = if within then ([], s1) else qK1 d (fun k s => qQi d C F k true true s) (p : Int) qZm s1 := ⟨_, rfl⟩
 have HF2 : qZa d r1.2.had <= F := by
  rw [hr1]
  split
  · exact HF1
  · exact Nat.le_trans (qG6 gd hC HF1 _ _) HF1
 obtain ⟨r2, hr2⟩ : ∃ r2, r2 = qK5 d (fun k s => qQi d C F k true false s) (p : Int) r1.2 := ⟨_, rfl⟩
 have HF3 : qZa d r2.2.had <= F := by
  rw [hr2]
  exact Nat.le_trans (zJh gd hC HF2 _) HF2
 obtain ⟨q3, hq3⟩ : ∃ q3, q3 = qJp d C (fun k s => qQi d C F k true listed s) (p : Int) r2.2 := ⟨_, rfl⟩
 have hr3 : (if within || (kOf (qQf d (p : Int))).content then q3 else ([], r2.2)) = if within || (kOf (qQf d (p : Int))).content then qJp d C (fun k s => qQi d C F k true listed s) (p : Int) r2.2 else ([], r2.2) := by rw [hq3]
 have hR0 := zZh d C F (p : Int) within listed s s1 r1 r2 _ hs1 hr1 hr2 hr3
 clear hr3
 obtain ⟨R, hR⟩ : ∃ R, R = qQi d C (F + 1) (p : Int) within listed s := ⟨_, rfl⟩
 rw [<- hR] at hR0 ⊢
 rw [qQt hp] at hR0
 have HK0 := lH k
 have HMS := lH (Mark.start k.ok hn)
 obtain ⟨μ, hμ1, hμ2⟩ := qKr gd
 have HMU := lH hμ2
 have HGD := lH gd
 clear hμ1 hμ2
 have cUp : Hid (∀ w' s', NmM m g h u (.slice (some ⟨b, off, none⟩) d.length cap) cv X e d C w' s' -> ∀ x, Calls Tryz.prog 64 #[.slice (some ⟨b, off, none⟩) d.length cap, .int .i64 x] w' (Rb (.int .i64 (upR d x)) w')) := lH (fun w' s' hk x => qXq m _ d x w' hk.doc hk.lts.2.2.2 gd)
 have HOK1 : qBs d s1 := by rw [hs1]; exact (k.ok.mark gd hn).hit _
 have HOK1 := lH HOK1
 have HHIT : Hid (∀ w1 w2 ks, NmM m g h u (.slice (some ⟨b, off, none⟩) d.length cap) cv X e d C w1 (markM d (p : Int) s) -> (∀ x, (markM d (p : Int) s).had x = ks.contains x) -> qJc w2 h (addK ks (p : Int)) -> w1.grownBy w2 (some h) -> NmAt m g h u (.slice (some ⟨b, off, none⟩) d.length cap) cv X e d C w2 s1) := lH (fun w1 w2 ks h1 h2 h3 h4 => ⟨by rw [hs1]; exact h1.hit h2 h3 h4, HOK1.out⟩)
 have cHid : Hid (∀ w' s', NmM m g h u (.slice (some ⟨b, off, none⟩) d.length cap) cv X e d C w' s' -> Calls Tryz.prog 24 #[.slice (some ⟨b, off, none⟩) d.length cap, .int .i64 (p : Int)] w' (Rb (.bool (qQw d (p : Int))) w')) := lH (fun w' s' hk => qWr m _ d _ w' hk.doc hk.lts.2.2.2 gd)
 have cRo : Hid (∀ w' s', NmM m g h u (.slice (some ⟨b, off, none⟩) d.length cap) cv X e d C w' s' -> Calls Tryz.prog 26 #[.slice (some ⟨b, off, none⟩) d.length cap, .int .i64 (p : Int)] w' (Rb (.int .i64 (qQf d (p : Int))) w')) := lH (fun w' s' hk => qJ3 m _ d _ w' hk.doc hk.lts.2.2.2 gd)
 have cSa : ∀ w' s', NmM m g h u (.slice (some ⟨b, off, none⟩) d.length cap) cv X e d C w' s' -> ∀ name, Calls Tryz.prog 67 #[.slice (some ⟨b, off, none⟩) d.length cap, .int .i64 (p : Int), .string ⟨name.toArray⟩] w' (Rb (.string ⟨(sq d (p : Int) name).toArray⟩) w') := fun w' s' hk name => qXf m _ d _ name w' hk.doc hk.lts.2.2.2 gd
 have cAt1 : Hid (∀ w' s', NmM m g h u (.slice (some ⟨b, off, none⟩) d.length cap) cv X e d C w' s' -> Calls Tryz.prog 67 #[.slice (some ⟨b, off, none⟩) d.length cap, .int .i64 (p : Int), .string ⟨#[97, 114, 105, 97, 45, 108, 97, 98, 101, 108]⟩] w' (Rb (.string ⟨(sq d (p : Int) labelT).toArray⟩) w')) := lH (fun w' s' hk => cSa w' s' hk labelT)
 have cAt2 : Hid (∀ w' s', NmM m g h u (.slice (some ⟨b, off, none⟩) d.length cap) cv X e d C w' s' -> Calls Tryz.prog 67 #[.slice (some ⟨b, off, none⟩) d.length cap, .int .i64 (p : Int), .string ⟨#[118, 97, 108, 117, 101]⟩] w' (Rb (.string ⟨(sq d (p : Int) valueT).toArray⟩) w')) := lH (fun w' s' hk => cSa w' s' hk valueT)
 have cAt3 : Hid (∀ w' s', NmM m g h u (.slice (some ⟨b, off, none⟩) d.length cap) cv X e d C w' s' -> Calls Tryz.prog 67 #[.slice (some ⟨b, off, none⟩) d.length cap, .int .i64 (p : Int), .string ⟨#[116, 105, 116, 108, 101]⟩] w' (Rb (.string ⟨(sq d (p : Int) titleT).toArray⟩) w')) := lH (fun w' s' hk => cSa w' s' hk titleT)
 have htx : d[p].text.length <= 60 := by
  obtain ⟨r, g0⟩ := gd.tree
  have := (g0.ok (p : Int)).short.1
  rwa [qQt hp] at this
 have cSq : Hid (∀ w', Calls Tryz.prog 23 #[.string ⟨d[p].text.toArray⟩] w' (Rb (.string ⟨(qQg d[p].text).toArray⟩) w')) := lH (fun w' => qXd _ htx w')
 have cHo : Hid (∀ w', NmAt m g h u (.slice (some ⟨b, off, none⟩) d.length cap) cv X e d C w' r1.2 -> Calls Tryz.prog 108 #[.pointer (some ⟨g, 0, none⟩), .int .i64 (p : Int)] w' (Rm w' h u (.string ⟨r2.1.toArray⟩) (fun w'' => NmAt m g h u (.slice (some ⟨b, off, none⟩) d.length cap) cv X e d C w'' r2.2))) := lH (fun w' hk => by rw [hr2]; exact qFr gd H1 hk HF2 _ hn)
 have HQ3 := lH hq3
 have HF3H := lH HF3
 have H1H := lH H1
 have HDO : Hid (∀ j, DoesL d r2.2 (eachF (fun k s => qQi d C F k true listed s) ((qQs d C (p : Int)).take j) r2.2)) := lH (qGb gd hC (fun k hk => .inr (qV4 gd hC hk)) HF3)
 have HIS : Hid (∀ x ∈ qQs d C (p : Int), isM d x false = true) := lH (fun x hx => qV4 gd hC hx)
 have cIn : Hid (∀ w' s', NmM m g h u (.slice (some ⟨b, off, none⟩) d.length cap) cv X e d C w' s' -> Calls Tryz.prog 109 #[.slice (some ⟨b, off, none⟩) d.length cap, cv, .int .i64 (p : Int)] w' (Rn w' fun w'' y => qQc 1 qQk w'.heap.size 3 w'' y (qQs d C (p : Int)))) := lH (fun w' s' hk => qV5 m _ cv d C (p : Int) w' hk.doc hk.clm hk.lts.2.2.2 gd hCl)
 have HTL := lH (qGn gd C (p : Int) hCl)
 have eIn : ∀ args w, (callFunc 109 args).run Tryz.prog w = .ok (.enter 109 args) w := fun args w => by rfl
 obtain ⟨ib, hib, hzb⟩ := qKx
 have cLi : Hid (within = false -> ∀ w', NmAt m g h u (.slice (some ⟨b, off, none⟩) d.length cap) cv X e d C w' s1 -> Calls Tryz.prog 66 #[.pointer (some ⟨g, 0, none⟩), .int .i64 (p : Int), .string ⟨#[97, 114, 105, 97, 45, 108, 97, 98, 101, 108, 108, 101, 100, 98, 121]⟩] w' (Rm w' h u (.string ⟨r1.1.toArray⟩) (fun w'' => NmAt m g h u (.slice (some ⟨b, off, none⟩) d.length cap) cv X e d C w'' r1.2))) := lH (fun hw w' hk => by rw [hr1, hw]; exact qB3 gd hC H1 hk HF1 _ qZm)
 have HW1 : Hid (within = true -> r1 = ([], s1)) := lH (fun hw => by rw [hr1, hw]; rfl)
 have cKo := lH (qZw (qQf d (p : Int)))
 have hfl := qG2
 have c0 := k.mem.c0
 have c2 := k.mem.c2
 have HBW := lH (Bel.refl W)
 clear hR k ih H1 HF1 HF2 HF3 hr1 hr2 hq3 hf hfh hh hn hN htx HOK1 cSa
 generalize qQw d (p : Int) = hd at *
 generalize sq d (p : Int) labelT = lb at *
 generalize sq d (p : Int) valueT = vl at *
 generalize sq d (p : Int) titleT = tt at *
 generalize qQf d (p : Int) = rl at *
 generalize qQg d[p].text = sqt at *
 generalize hTx : d[p].text = tx at *
 clear hTx
 generalize hTg : d[p].tag = tg at *
 clear hTg
 generalize hkk : kOf rl = kk at *
 clear hkk
 obtain ⟨kname, kcont, kleaf, klev, kchk, knam, kneed⟩ := kk
 obtain ⟨r1a, r1b⟩ := r1
 obtain ⟨r2a, r2b⟩ := r2
 obtain ⟨q3a, q3b⟩ := q3
 simp only at hR0 cHo cLi HW1 cKo HQ3 HF3H HDO
 clear hs1
 generalize hIT : qQs d C (p : Int) = T at *
 have HIT := lH hIT
 clear hIT
 have HR0 := lH hR0
 clear hR0
 cases within with
 | true =>
   have hw1 := HW1.out rfl
   simp only [Prod.mk.injEq] at hw1
   obtain ⟨rfl, rfl⟩ := hw1
   clear cLi HW1
   cases listed with
   | true =>
     cases htg : tg.isEmpty
     all_goals
      go_enter Tryz.func65, Tryz.ntmps65
      go_wp2
      go_loopw [9] (fun z wr => ∃ (x : Int) (s' : St), z = .int .i64 x /\ Mark d (p : Int) s x s' /\ NmM m g h u (.slice (some ⟨b, off, none⟩) d.length cap) cv X e d C wr s' /\ Nmd h u W wr) (fun z _ => qVm μ (intOf z))
      case atStart => exact ⟨(p : Int), s, rfl, HMS.out, HK0.out.mem, Nmd.refl _⟩
      case round =>
       obtain ⟨x, s', rfl, hM, hK, hD⟩ := hrel
       have HMk := lH hM
       have HKr := lH hK
       have HD := lH hD
       have c0 := hK.c0
       have c3 := hK.c3
       obtain ⟨ks, hS, hks⟩ := hK.use
       have HSu := lH hS
       have HKS := lH hks
       clear hM hK hD hS hks
       by_cases hx : 0 <= x
       · have HST := lH (HMk.out.step HGD.out hx)
         go_wp2_with (first
 | (with_reducible refine qQ0 rfl (.inr rfl) qQe kI0 HSu.out x rfl rfl rfl ?_; intro w1 q1 g1 z1; have HK1 := lH (HKr.out.ask HKS.out q1 g1); have HD1 := lH (HD.out.trans (Nmd.use g1)); have c0 := HK1.out.c0; have c3 := HK1.out.c3; clear q1 g1 z1)
 | (go_at_call 64; (with_reducible refine (cUp.out _ _ HK1.out x).mono ?_); rintro e1 w2 ⟨rfl, b2⟩; have HK2 := lH (HK1.out.bel b2); have HD2 := lH (HD1.out.trans (Nmd.bel b2)); have c0 := HK2.out.c0; have c3 := HK2.out.c3; clear b2))
         go_roundw
         case rel => exact ⟨upR d x, _, rfl, HST.out, HK2.out, HD2.out⟩
         case measure => exact qJy hx (HMU.out x)
       · have hx' : x < 0 := by omega
         have hk1 := HKr.out.congr (s' := markM d (p : Int) s) (fun y => (HMk.out.had y).symm) (HMk.out.done HGD.out (.inl hx'))
         have HK1 := lH hk1
         have c2 := hk1.c2
         obtain ⟨ks, hS, hks⟩ := hk1.had
         have HS1 := lH hS
         have HKS1 := lH hks
         clear hk1 hS hks HKr HMk HSu HKS
         go_upto_region 24 with (first
 | (with_reducible refine qQ0 rfl (.inr rfl) qQe kI0 HS1.out (p : Int) rfl rfl rfl ?_; intro w2 q2 g2 z2; have HK := lH (HHIT.out _ _ _ HK1.out HKS1.out q2 g2); have HD := lH (HD.out.trans (Nmd.had g2)); have c0 := HK.out.mem.c0; have t1 := HTG.out _ _ HK.out.mem; have t2 := HTX.out _ _ HK.out.mem; clear q2 g2 z2)
 | (go_at_call 24; (with_reducible refine (cHid.out _ _ HK.out.mem).mono ?_); rintro e1 w3 ⟨rfl, b3⟩; have HD := lH (HD.out.trans (Nmd.bel b3)); have HK := lH (NmAt.mk (HK.out.mem.bel b3) HK.out.ok); have c0 := HK.out.mem.c0; have t1 := HTG.out _ _ HK.out.mem; have t2 := HTX.out _ _ HK.out.mem; clear b3; cases hd)
 | (go_at_call 23; (with_reducible refine (cSq.out _).mono ?_); rintro e1 w4 ⟨rfl, b3⟩; have HD := lH (HD.out.trans (Nmd.bel b3)); have HK := lH (NmAt.mk (HK.out.mem.bel b3) HK.out.ok); clear b3)
 | (go_at_call 67; (with_reducible refine (cAt1.out _ _ HK.out.mem).mono ?_); rintro e1 w6 ⟨rfl, b3⟩; have HD := lH (HD.out.trans (Nmd.bel b3)); have HK := lH (NmAt.mk (HK.out.mem.bel b3) HK.out.ok); have c0 := HK.out.mem.c0; have t1 := HTG.out _ _ HK.out.mem; have t2 := HTX.out _ _ HK.out.mem; clear b3; cases helb : lb.isEmpty)
 | (go_at_call 26; (with_reducible refine (cRo.out _ _ HK.out.mem).mono ?_); rintro e1 w9 ⟨rfl, b3⟩; have HD := lH (HD.out.trans (Nmd.bel b3)); have HK := lH (NmAt.mk (HK.out.mem.bel b3) HK.out.ok); have c0 := HK.out.mem.c0; have t1 := HTG.out _ _ HK.out.mem; have t2 := HTX.out _ _ HK.out.mem; clear b3; cases hb12 : (rl == 12))
 | (go_at_call 67; (with_reducible refine (cAt2.out _ _ HK.out.mem).mono ?_); rintro e1 w7 ⟨rfl, b3⟩; have HD := lH (HD.out.trans (Nmd.bel b3)); have HK := lH (NmAt.mk (HK.out.mem.bel b3) HK.out.ok); clear b3)
 | (go_at_call 108; (with_reducible refine (cHo.out _ HK.out).mono ?_); rintro e1 w10 ⟨rfl, d3, k3⟩; have HD := lH (HD.out.trans d3); have HK := lH k3; have c0 := HK.out.mem.c0; have t1 := HTG.out _ _ HK.out.mem; have t2 := HTX.out _ _ HK.out.mem; clear d3 k3; cases he2 : r2a.isEmpty)
 | (go_at_call 67; (with_reducible refine (cAt3.out _ _ HK.out.mem).mono ?_); rintro e1 w8 ⟨rfl, b3⟩; have HD := lH (HD.out.trans (Nmd.bel b3)); have HK := lH (NmAt.mk (HK.out.mem.bel b3) HK.out.ok); clear b3))
         all_goals
          try (
           go_ret
           have hRv := HR0.out
           first
 | (simp [htg, he1, helb, hb12, he2, he3] at hRv; subst hRv; exact ⟨rfl, HD.out, HK.out⟩)
 | (simp [htg, helb, hb12, he2, he3] at hRv; subst hRv; exact ⟨rfl, HD.out, HK.out⟩)
 | (simp [htg, he1, helb, he2, he3] at hRv; subst hRv; exact ⟨rfl, HD.out, HK.out⟩)
 | (simp [htg, he1, helb, he2] at hRv; subst hRv; exact ⟨rfl, HD.out, HK.out⟩)
 | (simp [htg, helb, he2] at hRv; subst hRv; exact ⟨rfl, HD.out, HK.out⟩)
 | (simp [htg, he1, helb, hb12, he2] at hRv; subst hRv; exact ⟨rfl, HD.out, HK.out⟩)
 | (simp [htg, helb, hb12, he2] at hRv; subst hRv; exact ⟨rfl, HD.out, HK.out⟩)
 | (simp [htg, helb, hb12] at hRv; subst hRv; exact ⟨rfl, HD.out, HK.out⟩)
 | (simp [htg, he1, helb] at hRv; subst hRv; exact ⟨rfl, HD.out, HK.out⟩)
 | (simp [htg, helb] at hRv; subst hRv; exact ⟨rfl, HD.out, HK.out⟩)
 | (simp [htg, he1] at hRv; subst hRv; exact ⟨rfl, HD.out, HK.out⟩)
 | (simp [htg] at hRv; subst hRv; exact ⟨rfl, HD.out, HK.out⟩))
         all_goals
          go_upto_region 25 with fail
          refine qQu (E := fun w' => NmAt m g h u (.slice (some ⟨b, off, none⟩) d.length cap) cv X e d C w' r2b /\ Nmd h u W w') ⟨HK.out, HD.out⟩ ?_
          rintro w20 ⟨hK20, hD20⟩
          have HK20 := lH hK20
          have HD20 := lH hD20
          have hlt := hK20.mem.lts
          have HLT := lH hlt
          have c0 := hK20.mem.c0
          have c1 := hK20.mem.c1
          have cI20 := lH (cIn.out w20.drew r2b (hK20.mem.bel (Bel.refl w20).drew))
          have hkl := HTL.out
          clear hK20 hD20 HK HD hlt
          go_cut [120, 121, 122] from 111 to 122 (fun y l z w3 => ∃ a c, y = .slice a T.length c /\ l = .int .i64 T.length /\ z = .int .i64 0 /\ Bel w20 w3 /\ qQc 1 qQk w20.heap.size 3 w3 y T)
          case first =>
           go_region_law (refine qKt rfl 109 eIn #[.tmp 114, .tmp 118, .tmp 119] _ rfl (vs := #[.slice (some ⟨b, off, none⟩) d.length cap, cv, .int .i64 (p : Int)]) ?hv cI20.out ?_; (case hv => simp [Act.eval]); rintro e1 w3 ⟨b3, y3, rfl, o3⟩; refine ⟨_, rfl, ?_⟩; have HT := lH o3; have HBW3 := lH (Bel.then (Bel.refl w20).drew b3); obtain ⟨ta, tc, rfl, t1, t2⟩ := qQa.form o3.read; clear b3 o3)
           all_goals (go_wp2_with fail; go_meet; exact ⟨ta, tc, rfl, rfl, rfl, HBW3.out, HT.out⟩)
          case rest =>
          obtain ⟨ta, tc, rfl, rfl, rfl, hB3, hT⟩ := hcut
          have HT := lH hT
          have HBW3 := lH hB3
          have S3 := hB3.size
          obtain ⟨_, _, e3, t1, t2⟩ := qQa.form hT.read
          clear hT hB3 e3
          generalize wc = w3 at *
          go_wp2
          go_loopw [122, 14] (fun z o wr => ∃ (j : Nat) (r : List Txt × St), j <= T.length /\ z = .int .i64 j /\ r = eachF (fun k s => qQi d C F k true true s) (T.take j) r2b /\ qQc 1 qJ1 w3.heap.size 9 wr o r.1 /\ NmAt m g h u (.slice (some ⟨b, off, none⟩) d.length cap) cv X e d C wr r.2 /\ Nmd h u w3 wr) (fun z _ _ => T.length - (intOf z).toNat)
          case atStart => exact ⟨0, ([], r2b), by omega, rfl, rfl, qQc.nil _ _ _, ⟨HK20.out.mem.bel HBW3.out, HK20.out.ok⟩, Nmd.refl _⟩
          case round =>
           obtain ⟨j, r, hj, rfl, hr, hO, hK, hD⟩ := hrel
           have HR := lH hr
           have HO := lH hO
           have HK := lH hK
           have HD := lH hD
           have hDo := HDO.out j
           rw [<- hr] at hDo
           have hsm := qJh hDo HGD.out
           have HFj : Hid (qZa d r.2.had <= F) := lH (Nat.le_trans hDo.free HF3H.out)
           have hTr : qQa 1 qQk (fun b => w20.heap.size <= b /\ b < w3.heap.size) wr (.slice ta T.length tc) T := hD.row (HT.out.row.mono (fun _ h => ⟨h.1, h.2.1⟩) (fun _ _ _ h => h)) qQd (fun b hb => by have := HLT.out; omega)
           have c0 := hK.mem.c0
           have c2 := hK.mem.c2
           have SD := hD.size
           obtain ⟨oa, oc, rfl, o1, o2⟩ := qQa.form hO.read
           obtain ⟨ks, hS, hks⟩ := hK.mem.had
           have HSh := lH hS
           have HKS := lH hks
           clear hr hO hK hD hDo hS hks
           by_cases hlt : j < T.length
           · obtain ⟨_, _, _, _, e1, _, _, _, _⟩ := qQa.elem hTr j hlt
             simp at e1
             obtain ⟨rfl, rfl⟩ := e1
             have cw := qQa.int_cell hTr j hlt
             have hst := qZ4 (one := fun k s => qQi d C F k true true s) (K := T) (s := r2b) (j := j) hlt
             rw [<- HR.out] at hst
             have HST := lH hst
             have HISk := lH (HIS.out T[j] (List.getElem_mem hlt))
             clear hst hTr
             generalize T[j] = kk at *
             have hk0 := (qQn.1 HISk.out).1
             cases hc : ks.contains kk with
             | true =>
               have HE : Hid (eachF (fun k s => qQi d C F k true true s) (T.take (j + 1)) r2b = r) := lH (by rw [HST.out, if_neg]; rw [HKS.out kk, hc]; simp)
               go_wp2_with (with_reducible refine qZ0 rfl rfl qQe kI0 hib hzb HSh.out kk rfl rfl ?_; rw [hc])
               go_roundw
               case rel => exact ⟨j + 1, r, by omega, by go_num, HE.out.symm, HO.out, HK.out, HD.out⟩
               case measure => simp [intOf]; omega
             | false =>
               have hhad : r.2.had kk = false := (HKS.out kk).trans hc
               have HE : Hid (eachF (fun k s => qQi d C F k true true s) (T.take (j + 1)) r2b = (r.1 ++ [(qQi d C F kk true true r.2).1], (qQi d C F kk true true r.2).2)) := lH (by rw [HST.out, if_pos ⟨hk0, hhad⟩])
               have cO : Hid (∀ W', NmAt m g h u (.slice (some ⟨b, off, none⟩) d.length cap) cv X e d C W' r.2 -> Calls Tryz.prog 65 #[.pointer (some ⟨g, 0, none⟩), .int .i64 kk, .bool true, .bool true] W' (Rm W' h u (.string ⟨(qQi d C F kk true true r.2).1.toArray⟩) (fun w' => NmAt m g h u (.slice (some ⟨b, off, none⟩) d.length cap) cv X e d C w' (qQi d C F kk true true r.2).2))) := lH (fun W' hW => H1H.out kk true r.2 W' hW HISk.out hhad HFj.out)
               have hsm2 := qJh (HDO.out (j + 1)) HGD.out
               rw [HE.out] at hsm2
               clear hhad
               generalize qQi d C F kk true true r.2 = q at *
               obtain ⟨q1, q2⟩ := q
               simp only at cO HE hsm2
               go_wp2_with (first
 | (with_reducible refine qZ0 rfl rfl qQe kI0 hib hzb HSh.out kk rfl rfl ?_; rw [hc])
 | (go_at_call 65; (with_reducible refine (cO.out _ HK.out).mono ?_); rintro e1 w5 ⟨rfl, d5, k5⟩; have HK5 := lH k5; have HD5 := lH (HD.out.trans d5); have HO5 := lH (d5.own HO.out qQ7 (by have := HLT.out; omega) (by have := HLT.out; omega)); have S5 := d5.size; have c0 := HK5.out.mem.c0; have c2 := HK5.out.mem.c2; clear d5 k5)
 | (at_builtin; go_must (refine qQr rfl _ _ _ rfl qJ6 (by decide) qQ7 qX0 rfl HO5.out rfl ?hg q1 ⟨rfl, rfl⟩ ?hb1 ?hb2 ?hb3 ?_); (case hg => simp); (case hb1 => omega); (case hb2 => omega); (case hb3 => have := HD5.out.size; omega); intro v6 w6 o6 g6; have HO6 := lH o6; have HK6 := lH (NmAt.mk (HK5.out.mem.grown g6 (fun b hb => (HO5.out.lt b hb).1) (by have := HLT.out; omega)) HK5.out.ok); have HD6 := lH (HD5.out.grown g6 (fun b hb => (HO5.out.lt b hb).1)); clear o6 g6))
               go_roundw
               case rel => exact ⟨j + 1, _, by omega, by go_num, HE.out.symm, HO6.out, HK6.out, HD6.out⟩
               case measure => simp [intOf]; omega
           · have hT : T.take j = T := List.take_of_length_le (by omega)
             rw [hT] at HR
             have hjl := qGw r.1
             have cJ : Hid (∀ W' v, qQc 1 qJ1 w3.heap.size 9 W' v r.1 -> Calls Tryz.prog 69 #[v] W' (Rb (.string ⟨(join r.1).toArray⟩) W')) := lH (fun W' v ho => (qJq _ v r.1 W' ho.row (by omega)).mono (fun _ _ h => h.rb))
             have cS : Hid (∀ W', Calls Tryz.prog 23 #[.string ⟨(join r.1).toArray⟩] W' (Rb (.string ⟨(qQg (join r.1)).toArray⟩) W')) := lH (fun W' => qZr _ W' (by omega))
             have hq3 := HQ3.out
             unfold qJp at hq3
             rw [HIT.out, <- HR.out] at hq3
             simp only [Prod.mk.injEq] at hq3
             obtain ⟨hqa, rfl⟩ := hq3
             rw [<- hqa] at cS
             have HD := lH (HD20.out.trans ((Nmd.bel HBW3.out).trans HD.out))
             clear hT hTr hjl hsm hqa
             obtain ⟨JN, hJN⟩ : ∃ x, x = join r.1 := ⟨_, rfl⟩
             rw [<- hJN] at cJ cS
             clear hJN
             go_wp2_with (first
 | (go_at_call 69; (with_reducible refine (cJ.out _ _ HO.out).mono ?_); rintro e1 w14 ⟨rfl, b4⟩; have HD := lH (HD.out.trans (Nmd.bel b4)); have HK := lH (NmAt.mk (HK.out.mem.bel b4) HK.out.ok); clear b4)
 | (go_at_call 23; (with_reducible refine (cS.out _).mono ?_); rintro e1 w15 ⟨rfl, b5⟩; have HD := lH (HD.out.trans (Nmd.bel b5)); have HK := lH (NmAt.mk (HK.out.mem.bel b5) HK.out.ok); have c0 := HK.out.mem.c0; have t1 := HTG.out _ _ HK.out.mem; have t2 := HTX.out _ _ HK.out.mem; clear b5; cases he3 : q3a.isEmpty)
 | (go_at_call 67; (with_reducible refine (cAt3.out _ _ HK.out.mem).mono ?_); rintro e1 w8 ⟨rfl, b3⟩; have HD := lH (HD.out.trans (Nmd.bel b3)); have HK := lH (NmAt.mk (HK.out.mem.bel b3) HK.out.ok); clear b3))
             all_goals
             go_ret
             have hRv := HR0.out
             first
              | (simp [htg, he1, helb, hb12, he2, he3] at hRv; subst hRv; exact ⟨rfl, HD.out, HK.out⟩)
              | (simp [htg, helb, hb12, he2, he3] at hRv; subst hRv; exact ⟨rfl, HD.out, HK.out⟩)
              | (simp [htg, he1, helb, he2, he3] at hRv; subst hRv; exact ⟨rfl, HD.out, HK.out⟩)
              | (simp [htg, he1, helb, he2] at hRv; subst hRv; exact ⟨rfl, HD.out, HK.out⟩)
              | (simp [htg, helb, he2] at hRv; subst hRv; exact ⟨rfl, HD.out, HK.out⟩)
              | (simp [htg, he1, helb, hb12, he2] at hRv; subst hRv; exact ⟨rfl, HD.out, HK.out⟩)
              | (simp [htg, helb, hb12, he2] at hRv; subst hRv; exact ⟨rfl, HD.out, HK.out⟩)
              | (simp [htg, helb, hb12] at hRv; subst hRv; exact ⟨rfl, HD.out, HK.out⟩)
              | (simp [htg, he1, helb] at hRv; subst hRv; exact ⟨rfl, HD.out, HK.out⟩)
              | (simp [htg, helb] at hRv; subst hRv; exact ⟨rfl, HD.out, HK.out⟩)
              | (simp [htg, he1] at hRv; subst hRv; exact ⟨rfl, HD.out, HK.out⟩)
              | (simp [htg] at hRv; subst hRv; exact ⟨rfl, HD.out, HK.out⟩)
   | false =>
     cases htg : tg.isEmpty
     all_goals
      go_enter Tryz.func65, Tryz.ntmps65
      go_wp2
      go_loopw [9] (fun z wr => ∃ (x : Int) (s' : St), z = .int .i64 x /\ Mark d (p : Int) s x s' /\ NmM m g h u (.slice (some ⟨b, off, none⟩) d.length cap) cv X e d C wr s' /\ Nmd h u W wr) (fun z _ => qVm μ (intOf z))
      case atStart => exact ⟨(p : Int), s, rfl, HMS.out, HK0.out.mem, Nmd.refl _⟩
      case round =>
       obtain ⟨x, s', rfl, hM, hK, hD⟩ := hrel
       have HMk := lH hM
       have HKr := lH hK
       have HD := lH hD
       have c0 := hK.c0
       have c3 := hK.c3
       obtain ⟨ks, hS, hks⟩ := hK.use
       have HSu := lH hS
       have HKS := lH hks
       clear hM hK hD hS hks
       by_cases hx : 0 <= x
       · have HST := lH (HMk.out.step HGD.out hx)
         go_wp2_with (first
 | (with_reducible refine qQ0 rfl (.inr rfl) qQe kI0 HSu.out x rfl rfl rfl ?_; intro w1 q1 g1 z1; have HK1 := lH (HKr.out.ask HKS.out q1 g1); have HD1 := lH (HD.out.trans (Nmd.use g1)); have c0 := HK1.out.c0; have c3 := HK1.out.c3; clear q1 g1 z1)
 | (go_at_call 64; (with_reducible refine (cUp.out _ _ HK1.out x).mono ?_); rintro e1 w2 ⟨rfl, b2⟩; have HK2 := lH (HK1.out.bel b2); have HD2 := lH (HD1.out.trans (Nmd.bel b2)); have c0 := HK2.out.c0; have c3 := HK2.out.c3; clear b2))
         go_roundw
         case rel => exact ⟨upR d x, _, rfl, HST.out, HK2.out, HD2.out⟩
         case measure => exact qJy hx (HMU.out x)
       · have hx' : x < 0 := by omega
         have hk1 := HKr.out.congr (s' := markM d (p : Int) s) (fun y => (HMk.out.had y).symm) (HMk.out.done HGD.out (.inl hx'))
         have HK1 := lH hk1
         have c2 := hk1.c2
         obtain ⟨ks, hS, hks⟩ := hk1.had
         have HS1 := lH hS
         have HKS1 := lH hks
         clear hk1 hS hks HKr HMk HSu HKS
         go_upto_region 24 with (first
 | (with_reducible refine qQ0 rfl (.inr rfl) qQe kI0 HS1.out (p : Int) rfl rfl rfl ?_; intro w2 q2 g2 z2; have HK := lH (HHIT.out _ _ _ HK1.out HKS1.out q2 g2); have HD := lH (HD.out.trans (Nmd.had g2)); have c0 := HK.out.mem.c0; have t1 := HTG.out _ _ HK.out.mem; have t2 := HTX.out _ _ HK.out.mem; clear q2 g2 z2)
 | (go_at_call 24; (with_reducible refine (cHid.out _ _ HK.out.mem).mono ?_); rintro e1 w3 ⟨rfl, b3⟩; have HD := lH (HD.out.trans (Nmd.bel b3)); have HK := lH (NmAt.mk (HK.out.mem.bel b3) HK.out.ok); have c0 := HK.out.mem.c0; have t1 := HTG.out _ _ HK.out.mem; have t2 := HTX.out _ _ HK.out.mem; clear b3; cases hd)
 | (go_at_call 23; (with_reducible refine (cSq.out _).mono ?_); rintro e1 w4 ⟨rfl, b3⟩; have HD := lH (HD.out.trans (Nmd.bel b3)); have HK := lH (NmAt.mk (HK.out.mem.bel b3) HK.out.ok); clear b3)
 | (go_at_call 67; (with_reducible refine (cAt1.out _ _ HK.out.mem).mono ?_); rintro e1 w6 ⟨rfl, b3⟩; have HD := lH (HD.out.trans (Nmd.bel b3)); have HK := lH (NmAt.mk (HK.out.mem.bel b3) HK.out.ok); have c0 := HK.out.mem.c0; have t1 := HTG.out _ _ HK.out.mem; have t2 := HTX.out _ _ HK.out.mem; clear b3; cases helb : lb.isEmpty)
 | (go_at_call 26; (with_reducible refine (cRo.out _ _ HK.out.mem).mono ?_); rintro e1 w9 ⟨rfl, b3⟩; have HD := lH (HD.out.trans (Nmd.bel b3)); have HK := lH (NmAt.mk (HK.out.mem.bel b3) HK.out.ok); have c0 := HK.out.mem.c0; have t1 := HTG.out _ _ HK.out.mem; have t2 := HTX.out _ _ HK.out.mem; clear b3; cases hb12 : (rl == 12))
 | (go_at_call 67; (with_reducible refine (cAt2.out _ _ HK.out.mem).mono ?_); rintro e1 w7 ⟨rfl, b3⟩; have HD := lH (HD.out.trans (Nmd.bel b3)); have HK := lH (NmAt.mk (HK.out.mem.bel b3) HK.out.ok); clear b3)
 | (go_at_call 108; (with_reducible refine (cHo.out _ HK.out).mono ?_); rintro e1 w10 ⟨rfl, d3, k3⟩; have HD := lH (HD.out.trans d3); have HK := lH k3; have c0 := HK.out.mem.c0; have t1 := HTG.out _ _ HK.out.mem; have t2 := HTX.out _ _ HK.out.mem; clear d3 k3; cases he2 : r2a.isEmpty)
 | (go_at_call 67; (with_reducible refine (cAt3.out _ _ HK.out.mem).mono ?_); rintro e1 w8 ⟨rfl, b3⟩; have HD := lH (HD.out.trans (Nmd.bel b3)); have HK := lH (NmAt.mk (HK.out.mem.bel b3) HK.out.ok); clear b3))
         all_goals
          try (
           go_ret
           have hRv := HR0.out
           first
 | (simp [htg, he1, helb, hb12, he2, he3] at hRv; subst hRv; exact ⟨rfl, HD.out, HK.out⟩)
 | (simp [htg, helb, hb12, he2, he3] at hRv; subst hRv; exact ⟨rfl, HD.out, HK.out⟩)
 | (simp [htg, he1, helb, he2, he3] at hRv; subst hRv; exact ⟨rfl, HD.out, HK.out⟩)
 | (simp [htg, he1, helb, he2] at hRv; subst hRv; exact ⟨rfl, HD.out, HK.out⟩)
 | (simp [htg, helb, he2] at hRv; subst hRv; exact ⟨rfl, HD.out, HK.out⟩)
 | (simp [htg, he1, helb, hb12, he2] at hRv; subst hRv; exact ⟨rfl, HD.out, HK.out⟩)
 | (simp [htg, helb, hb12, he2] at hRv; subst hRv; exact ⟨rfl, HD.out, HK.out⟩)
 | (simp [htg, helb, hb12] at hRv; subst hRv; exact ⟨rfl, HD.out, HK.out⟩)
 | (simp [htg, he1, helb] at hRv; subst hRv; exact ⟨rfl, HD.out, HK.out⟩)
 | (simp [htg, helb] at hRv; subst hRv; exact ⟨rfl, HD.out, HK.out⟩)
 | (simp [htg, he1] at hRv; subst hRv; exact ⟨rfl, HD.out, HK.out⟩)
 | (simp [htg] at hRv; subst hRv; exact ⟨rfl, HD.out, HK.out⟩))
         all_goals
          go_upto_region 25 with fail
          refine qQu (E := fun w' => NmAt m g h u (.slice (some ⟨b, off, none⟩) d.length cap) cv X e d C w' r2b /\ Nmd h u W w') ⟨HK.out, HD.out⟩ ?_
          rintro w20 ⟨hK20, hD20⟩
          have HK20 := lH hK20
          have HD20 := lH hD20
          have hlt := hK20.mem.lts
          have HLT := lH hlt
          have c0 := hK20.mem.c0
          have c1 := hK20.mem.c1
          have cI20 := lH (cIn.out w20.drew r2b (hK20.mem.bel (Bel.refl w20).drew))
          have hkl := HTL.out
          clear hK20 hD20 HK HD hlt
          go_cut [120, 121, 122] from 111 to 122 (fun y l z w3 => ∃ a c, y = .slice a T.length c /\ l = .int .i64 T.length /\ z = .int .i64 0 /\ Bel w20 w3 /\ qQc 1 qQk w20.heap.size 3 w3 y T)
          case first =>
           go_region_law (refine qKt rfl 109 eIn #[.tmp 114, .tmp 118, .tmp 119] _ rfl (vs := #[.slice (some ⟨b, off, none⟩) d.length cap, cv, .int .i64 (p : Int)]) ?hv cI20.out ?_; (case hv => simp [Act.eval]); rintro e1 w3 ⟨b3, y3, rfl, o3⟩; refine ⟨_, rfl, ?_⟩; have HT := lH o3; have HBW3 := lH (Bel.then (Bel.refl w20).drew b3); obtain ⟨ta, tc, rfl, t1, t2⟩ := qQa.form o3.read; clear b3 o3)
           all_goals (go_wp2_with fail; go_meet; exact ⟨ta, tc, rfl, rfl, rfl, HBW3.out, HT.out⟩)
          case rest =>
          obtain ⟨ta, tc, rfl, rfl, rfl, hB3, hT⟩ := hcut
          have HT := lH hT
          have HBW3 := lH hB3
          have S3 := hB3.size
          obtain ⟨_, _, e3, t1, t2⟩ := qQa.form hT.read
          clear hT hB3 e3
          generalize wc = w3 at *
          go_wp2
          go_loopw [122, 14] (fun z o wr => ∃ (j : Nat) (r : List Txt × St), j <= T.length /\ z = .int .i64 j /\ r = eachF (fun k s => qQi d C F k true false s) (T.take j) r2b /\ qQc 1 qJ1 w3.heap.size 9 wr o r.1 /\ NmAt m g h u (.slice (some ⟨b, off, none⟩) d.length cap) cv X e d C wr r.2 /\ Nmd h u w3 wr) (fun z _ _ => T.length - (intOf z).toNat)
          case atStart => exact ⟨0, ([], r2b), by omega, rfl, rfl, qQc.nil _ _ _, ⟨HK20.out.mem.bel HBW3.out, HK20.out.ok⟩, Nmd.refl _⟩
          case round =>
           obtain ⟨j, r, hj, rfl, hr, hO, hK, hD⟩ := hrel
           have HR := lH hr
           have HO := lH hO
           have HK := lH hK
           have HD := lH hD
           have hDo := HDO.out j
           rw [<- hr] at hDo
           have hsm := qJh hDo HGD.out
           have HFj : Hid (qZa d r.2.had <= F) := lH (Nat.le_trans hDo.free HF3H.out)
           have hTr : qQa 1 qQk (fun b => w20.heap.size <= b /\ b < w3.heap.size) wr (.slice ta T.length tc) T := hD.row (HT.out.row.mono (fun _ h => ⟨h.1, h.2.1⟩) (fun _ _ _ h => h)) qQd (fun b hb => by have := HLT.out; omega)
           have c0 := hK.mem.c0
           have c2 := hK.mem.c2
           have SD := hD.size
           obtain ⟨oa, oc, rfl, o1, o2⟩ := qQa.form hO.read
           obtain ⟨ks, hS, hks⟩ := hK.mem.had
           have HSh := lH hS
           have HKS := lH hks
           clear hr hO hK hD hDo hS hks
           by_cases hlt : j < T.length
           · obtain ⟨_, _, _, _, e1, _, _, _, _⟩ := qQa.elem hTr j hlt
             simp at e1
             obtain ⟨rfl, rfl⟩ := e1
             have cw := qQa.int_cell hTr j hlt
             have hst := qZ4 (one := fun k s => qQi d C F k true false s) (K := T) (s := r2b) (j := j) hlt
             rw [<- HR.out] at hst
             have HST := lH hst
             have HISk := lH (HIS.out T[j] (List.getElem_mem hlt))
             clear hst hTr
             generalize T[j] = kk at *
             have hk0 := (qQn.1 HISk.out).1
             cases hc : ks.contains kk with
             | true =>
               have HE : Hid (eachF (fun k s => qQi d C F k true false s) (T.take (j + 1)) r2b = r) := lH (by rw [HST.out, if_neg]; rw [HKS.out kk, hc]; simp)
               go_wp2_with (with_reducible refine qZ0 rfl rfl qQe kI0 hib hzb HSh.out kk rfl rfl ?_; rw [hc])
               go_roundw
               case rel => exact ⟨j + 1, r, by omega, by go_num, HE.out.symm, HO.out, HK.out, HD.out⟩
               case measure => simp [intOf]; omega
             | false =>
               have hhad : r.2.had kk = false := (HKS.out kk).trans hc
               have HE : Hid (eachF (fun k s => qQi d C F k true false s) (T.take (j + 1)) r2b = (r.1 ++ [(qQi d C F kk true false r.2).1], (qQi d C F kk true false r.2).2)) := lH (by rw [HST.out, if_pos ⟨hk0, hhad⟩])
               have cO : Hid (∀ W', NmAt m g h u (.slice (some ⟨b, off, none⟩) d.length cap) cv X e d C W' r.2 -> Calls Tryz.prog 65 #[.pointer (some ⟨g, 0, none⟩), .int .i64 kk, .bool true, .bool false] W' (Rm W' h u (.string ⟨(qQi d C F kk true false r.2).1.toArray⟩) (fun w' => NmAt m g h u (.slice (some ⟨b, off, none⟩) d.length cap) cv X e d C w' (qQi d C F kk true false r.2).2))) := lH (fun W' hW => H1H.out kk false r.2 W' hW HISk.out hhad HFj.out)
               have hsm2 := qJh (HDO.out (j + 1)) HGD.out
               rw [HE.out] at hsm2
               clear hhad
               generalize qQi d C F kk true false r.2 = q at *
               obtain ⟨q1, q2⟩ := q
               simp only at cO HE hsm2
               go_wp2_with (first
 | (with_reducible refine qZ0 rfl rfl qQe kI0 hib hzb HSh.out kk rfl rfl ?_; rw [hc])
 | (go_at_call 65; (with_reducible refine (cO.out _ HK.out).mono ?_); rintro e1 w5 ⟨rfl, d5, k5⟩; have HK5 := lH k5; have HD5 := lH (HD.out.trans d5); have HO5 := lH (d5.own HO.out qQ7 (by have := HLT.out; omega) (by have := HLT.out; omega)); have S5 := d5.size; have c0 := HK5.out.mem.c0; have c2 := HK5.out.mem.c2; clear d5 k5)
 | (at_builtin; go_must (refine qQr rfl _ _ _ rfl qJ6 (by decide) qQ7 qX0 rfl HO5.out rfl ?hg q1 ⟨rfl, rfl⟩ ?hb1 ?hb2 ?hb3 ?_); (case hg => simp); (case hb1 => omega); (case hb2 => omega); (case hb3 => have := HD5.out.size; omega); intro v6 w6 o6 g6; have HO6 := lH o6; have HK6 := lH (NmAt.mk (HK5.out.mem.grown g6 (fun b hb => (HO5.out.lt b hb).1) (by have := HLT.out; omega)) HK5.out.ok); have HD6 := lH (HD5.out.grown g6 (fun b hb => (HO5.out.lt b hb).1)); clear o6 g6))
               go_roundw
               case rel => exact ⟨j + 1, _, by omega, by go_num, HE.out.symm, HO6.out, HK6.out, HD6.out⟩
               case measure => simp [intOf]; omega
           · have hT : T.take j = T := List.take_of_length_le (by omega)
             rw [hT] at HR
             have hjl := qGw r.1
             have cJ : Hid (∀ W' v, qQc 1 qJ1 w3.heap.size 9 W' v r.1 -> Calls Tryz.prog 69 #[v] W' (Rb (.string ⟨(join r.1).toArray⟩) W')) := lH (fun W' v ho => (qJq _ v r.1 W' ho.row (by omega)).mono (fun _ _ h => h.rb))
             have cS : Hid (∀ W', Calls Tryz.prog 23 #[.string ⟨(join r.1).toArray⟩] W' (Rb (.string ⟨(qQg (join r.1)).toArray⟩) W')) := lH (fun W' => qZr _ W' (by omega))
             have hq3 := HQ3.out
             unfold qJp at hq3
             rw [HIT.out, <- HR.out] at hq3
             simp only [Prod.mk.injEq] at hq3
             obtain ⟨hqa, rfl⟩ := hq3
             rw [<- hqa] at cS
             have HD := lH (HD20.out.trans ((Nmd.bel HBW3.out).trans HD.out))
             clear hT hTr hjl hsm hqa
             obtain ⟨JN, hJN⟩ : ∃ x, x = join r.1 := ⟨_, rfl⟩
             rw [<- hJN] at cJ cS
             clear hJN
             go_wp2_with (first
 | (go_at_call 69; (with_reducible refine (cJ.out _ _ HO.out).mono ?_); rintro e1 w14 ⟨rfl, b4⟩; have HD := lH (HD.out.trans (Nmd.bel b4)); have HK := lH (NmAt.mk (HK.out.mem.bel b4) HK.out.ok); clear b4)
 | (go_at_call 23; (with_reducible refine (cS.out _).mono ?_); rintro e1 w15 ⟨rfl, b5⟩; have HD := lH (HD.out.trans (Nmd.bel b5)); have HK := lH (NmAt.mk (HK.out.mem.bel b5) HK.out.ok); have c0 := HK.out.mem.c0; have t1 := HTG.out _ _ HK.out.mem; have t2 := HTX.out _ _ HK.out.mem; clear b5; cases he3 : q3a.isEmpty)
 | (go_at_call 67; (with_reducible refine (cAt3.out _ _ HK.out.mem).mono ?_); rintro e1 w8 ⟨rfl, b3⟩; have HD := lH (HD.out.trans (Nmd.bel b3)); have HK := lH (NmAt.mk (HK.out.mem.bel b3) HK.out.ok); clear b3))
             all_goals
             go_ret
             have hRv := HR0.out
             first
              | (simp [htg, he1, helb, hb12, he2, he3] at hRv; subst hRv; exact ⟨rfl, HD.out, HK.out⟩)
              | (simp [htg, helb, hb12, he2, he3] at hRv; subst hRv; exact ⟨rfl, HD.out, HK.out⟩)
              | (simp [htg, he1, helb, he2, he3] at hRv; subst hRv; exact ⟨rfl, HD.out, HK.out⟩)
              | (simp [htg, he1, helb, he2] at hRv; subst hRv; exact ⟨rfl, HD.out, HK.out⟩)
              | (simp [htg, helb, he2] at hRv; subst hRv; exact ⟨rfl, HD.out, HK.out⟩)
              | (simp [htg, he1, helb, hb12, he2] at hRv; subst hRv; exact ⟨rfl, HD.out, HK.out⟩)
              | (simp [htg, helb, hb12, he2] at hRv; subst hRv; exact ⟨rfl, HD.out, HK.out⟩)
              | (simp [htg, helb, hb12] at hRv; subst hRv; exact ⟨rfl, HD.out, HK.out⟩)
              | (simp [htg, he1, helb] at hRv; subst hRv; exact ⟨rfl, HD.out, HK.out⟩)
              | (simp [htg, helb] at hRv; subst hRv; exact ⟨rfl, HD.out, HK.out⟩)
              | (simp [htg, he1] at hRv; subst hRv; exact ⟨rfl, HD.out, HK.out⟩)
              | (simp [htg] at hRv; subst hRv; exact ⟨rfl, HD.out, HK.out⟩)
 | false =>
   have hli0 := cLi.out rfl
   have cLi2 := lH hli0
   clear hli0 cLi
   clear HW1
   cases listed with
   | true =>
     cases htg : tg.isEmpty
     all_goals
      go_enter Tryz.func65, Tryz.ntmps65
      go_wp2
      go_loopw [9] (fun z wr => ∃ (x : Int) (s' : St), z = .int .i64 x /\ Mark d (p : Int) s x s' /\ NmM m g h u (.slice (some ⟨b, off, none⟩) d.length cap) cv X e d C wr s' /\ Nmd h u W wr) (fun z _ => qVm μ (intOf z))
      case atStart => exact ⟨(p : Int), s, rfl, HMS.out, HK0.out.mem, Nmd.refl _⟩
      case round =>
       obtain ⟨x, s', rfl, hM, hK, hD⟩ := hrel
       have HMk := lH hM
       have HKr := lH hK
       have HD := lH hD
       have c0 := hK.c0
       have c3 := hK.c3
       obtain ⟨ks, hS, hks⟩ := hK.use
       have HSu := lH hS
       have HKS := lH hks
       clear hM hK hD hS hks
       by_cases hx : 0 <= x
       · have HST := lH (HMk.out.step HGD.out hx)
         go_wp2_with (first
 | (with_reducible refine qQ0 rfl (.inr rfl) qQe kI0 HSu.out x rfl rfl rfl ?_; intro w1 q1 g1 z1; have HK1 := lH (HKr.out.ask HKS.out q1 g1); have HD1 := lH (HD.out.trans (Nmd.use g1)); have c0 := HK1.out.c0; have c3 := HK1.out.c3; clear q1 g1 z1)
 | (go_at_call 64; (with_reducible refine (cUp.out _ _ HK1.out x).mono ?_); rintro e1 w2 ⟨rfl, b2⟩; have HK2 := lH (HK1.out.bel b2); have HD2 := lH (HD1.out.trans (Nmd.bel b2)); have c0 := HK2.out.c0; have c3 := HK2.out.c3; clear b2))
         go_roundw
         case rel => exact ⟨upR d x, _, rfl, HST.out, HK2.out, HD2.out⟩
         case measure => exact qJy hx (HMU.out x)
       · have hx' : x < 0 := by omega
         have hk1 := HKr.out.congr (s' := markM d (p : Int) s) (fun y => (HMk.out.had y).symm) (HMk.out.done HGD.out (.inl hx'))
         have HK1 := lH hk1
         have c2 := hk1.c2
         obtain ⟨ks, hS, hks⟩ := hk1.had
         have HS1 := lH hS
         have HKS1 := lH hks
         clear hk1 hS hks HKr HMk HSu HKS
         go_upto_region 24 with (first
 | (with_reducible refine qQ0 rfl (.inr rfl) qQe kI0 HS1.out (p : Int) rfl rfl rfl ?_; intro w2 q2 g2 z2; have HK := lH (HHIT.out _ _ _ HK1.out HKS1.out q2 g2); have HD := lH (HD.out.trans (Nmd.had g2)); have c0 := HK.out.mem.c0; have t1 := HTG.out _ _ HK.out.mem; have t2 := HTX.out _ _ HK.out.mem; clear q2 g2 z2)
 | (go_at_call 24; (with_reducible refine (cHid.out _ _ HK.out.mem).mono ?_); rintro e1 w3 ⟨rfl, b3⟩; have HD := lH (HD.out.trans (Nmd.bel b3)); have HK := lH (NmAt.mk (HK.out.mem.bel b3) HK.out.ok); have c0 := HK.out.mem.c0; have t1 := HTG.out _ _ HK.out.mem; have t2 := HTX.out _ _ HK.out.mem; clear b3; cases hd)
 | (go_at_call 23; (with_reducible refine (cSq.out _).mono ?_); rintro e1 w4 ⟨rfl, b3⟩; have HD := lH (HD.out.trans (Nmd.bel b3)); have HK := lH (NmAt.mk (HK.out.mem.bel b3) HK.out.ok); clear b3)
 | (go_at_call 66; (with_reducible refine (cLi2.out _ HK.out).mono ?_); rintro e1 w5 ⟨rfl, d3, k3⟩; have HD := lH (HD.out.trans d3); have HK := lH k3; have c0 := HK.out.mem.c0; have t1 := HTG.out _ _ HK.out.mem; have t2 := HTX.out _ _ HK.out.mem; clear d3 k3; cases he1 : r1a.isEmpty)
 | (go_at_call 67; (with_reducible refine (cAt1.out _ _ HK.out.mem).mono ?_); rintro e1 w6 ⟨rfl, b3⟩; have HD := lH (HD.out.trans (Nmd.bel b3)); have HK := lH (NmAt.mk (HK.out.mem.bel b3) HK.out.ok); have c0 := HK.out.mem.c0; have t1 := HTG.out _ _ HK.out.mem; have t2 := HTX.out _ _ HK.out.mem; clear b3; cases helb : lb.isEmpty)
 | (go_at_call 26; (with_reducible refine (cRo.out _ _ HK.out.mem).mono ?_); rintro e1 w9 ⟨rfl, b3⟩; have HD := lH (HD.out.trans (Nmd.bel b3)); have HK := lH (NmAt.mk (HK.out.mem.bel b3) HK.out.ok); have c0 := HK.out.mem.c0; have t1 := HTG.out _ _ HK.out.mem; have t2 := HTX.out _ _ HK.out.mem; clear b3; cases hb12 : (rl == 12))
 | (go_at_call 108; (with_reducible refine (cHo.out _ HK.out).mono ?_); rintro e1 w10 ⟨rfl, d3, k3⟩; have HD := lH (HD.out.trans d3); have HK := lH k3; have c0 := HK.out.mem.c0; have t1 := HTG.out _ _ HK.out.mem; have t2 := HTX.out _ _ HK.out.mem; clear d3 k3; cases he2 : r2a.isEmpty)
 | (go_at_call 25; (with_reducible refine (cKo.out _).mono ?_); rintro e1 w11 ⟨rfl, b3⟩; have HD := lH (HD.out.trans (Nmd.bel b3)); have HK := lH (NmAt.mk (HK.out.mem.bel b3) HK.out.ok); have c0 := HK.out.mem.c0; have t1 := HTG.out _ _ HK.out.mem; have t2 := HTX.out _ _ HK.out.mem; clear b3; cases kcont)
 | (go_at_call 67; (with_reducible refine (cAt3.out _ _ HK.out.mem).mono ?_); rintro e1 w8 ⟨rfl, b3⟩; have HD := lH (HD.out.trans (Nmd.bel b3)); have HK := lH (NmAt.mk (HK.out.mem.bel b3) HK.out.ok); clear b3))
         all_goals
          try (
           go_ret
           have hRv := HR0.out
           first
 | (simp [htg, he1, helb, hb12, he2, he3] at hRv; subst hRv; exact ⟨rfl, HD.out, HK.out⟩)
 | (simp [htg, helb, hb12, he2, he3] at hRv; subst hRv; exact ⟨rfl, HD.out, HK.out⟩)
 | (simp [htg, he1, helb, he2, he3] at hRv; subst hRv; exact ⟨rfl, HD.out, HK.out⟩)
 | (simp [htg, he1, helb, he2] at hRv; subst hRv; exact ⟨rfl, HD.out, HK.out⟩)
 | (simp [htg, helb, he2] at hRv; subst hRv; exact ⟨rfl, HD.out, HK.out⟩)
 | (simp [htg, he1, helb, hb12, he2] at hRv; subst hRv; exact ⟨rfl, HD.out, HK.out⟩)
 | (simp [htg, helb, hb12, he2] at hRv; subst hRv; exact ⟨rfl, HD.out, HK.out⟩)
 | (simp [htg, helb, hb12] at hRv; subst hRv; exact ⟨rfl, HD.out, HK.out⟩)
 | (simp [htg, he1, helb] at hRv; subst hRv; exact ⟨rfl, HD.out, HK.out⟩)
 | (simp [htg, helb] at hRv; subst hRv; exact ⟨rfl, HD.out, HK.out⟩)
 | (simp [htg, he1] at hRv; subst hRv; exact ⟨rfl, HD.out, HK.out⟩)
 | (simp [htg] at hRv; subst hRv; exact ⟨rfl, HD.out, HK.out⟩))
         all_goals
          go_upto_region 25 with fail
          refine qQu (E := fun w' => NmAt m g h u (.slice (some ⟨b, off, none⟩) d.length cap) cv X e d C w' r2b /\ Nmd h u W w') ⟨HK.out, HD.out⟩ ?_
          rintro w20 ⟨hK20, hD20⟩
          have HK20 := lH hK20
          have HD20 := lH hD20
          have hlt := hK20.mem.lts
          have HLT := lH hlt
          have c0 := hK20.mem.c0
          have c1 := hK20.mem.c1
          have cI20 := lH (cIn.out w20.drew r2b (hK20.mem.bel (Bel.refl w20).drew))
          have hkl := HTL.out
          clear hK20 hD20 HK HD hlt
          go_cut [120, 121, 122] from 111 to 122 (fun y l z w3 => ∃ a c, y = .slice a T.length c /\ l = .int .i64 T.length /\ z = .int .i64 0 /\ Bel w20 w3 /\ qQc 1 qQk w20.heap.size 3 w3 y T)
          case first =>
           go_region_law (refine qKt rfl 109 eIn #[.tmp 114, .tmp 118, .tmp 119] _ rfl (vs := #[.slice (some ⟨b, off, none⟩) d.length cap, cv, .int .i64 (p : Int)]) ?hv cI20.out ?_; (case hv => simp [Act.eval]); rintro e1 w3 ⟨b3, y3, rfl, o3⟩; refine ⟨_, rfl, ?_⟩; have HT := lH o3; have HBW3 := lH (Bel.then (Bel.refl w20).drew b3); obtain ⟨ta, tc, rfl, t1, t2⟩ := qQa.form o3.read; clear b3 o3)
           all_goals (go_wp2_with fail; go_meet; exact ⟨ta, tc, rfl, rfl, rfl, HBW3.out, HT.out⟩)
          case rest =>
          obtain ⟨ta, tc, rfl, rfl, rfl, hB3, hT⟩ := hcut
          have HT := lH hT
          have HBW3 := lH hB3
          have S3 := hB3.size
          obtain ⟨_, _, e3, t1, t2⟩ := qQa.form hT.read
          clear hT hB3 e3
          generalize wc = w3 at *
          go_wp2
          go_loopw [122, 14] (fun z o wr => ∃ (j : Nat) (r : List Txt × St), j <= T.length /\ z = .int .i64 j /\ r = eachF (fun k s => qQi d C F k true true s) (T.take j) r2b /\ qQc 1 qJ1 w3.heap.size 9 wr o r.1 /\ NmAt m g h u (.slice (some ⟨b, off, none⟩) d.length cap) cv X e d C wr r.2 /\ Nmd h u w3 wr) (fun z _ _ => T.length - (intOf z).toNat)
          case atStart => exact ⟨0, ([], r2b), by omega, rfl, rfl, qQc.nil _ _ _, ⟨HK20.out.mem.bel HBW3.out, HK20.out.ok⟩, Nmd.refl _⟩
          case round =>
           obtain ⟨j, r, hj, rfl, hr, hO, hK, hD⟩ := hrel
           have HR := lH hr
           have HO := lH hO
           have HK := lH hK
           have HD := lH hD
           have hDo := HDO.out j
           rw [<- hr] at hDo
           have hsm := qJh hDo HGD.out
           have HFj : Hid (qZa d r.2.had <= F) := lH (Nat.le_trans hDo.free HF3H.out)
           have hTr : qQa 1 qQk (fun b => w20.heap.size <= b /\ b < w3.heap.size) wr (.slice ta T.length tc) T := hD.row (HT.out.row.mono (fun _ h => ⟨h.1, h.2.1⟩) (fun _ _ _ h => h)) qQd (fun b hb => by have := HLT.out; omega)
           have c0 := hK.mem.c0
           have c2 := hK.mem.c2
           have SD := hD.size
           obtain ⟨oa, oc, rfl, o1, o2⟩ := qQa.form hO.read
           obtain ⟨ks, hS, hks⟩ := hK.mem.had
           have HSh := lH hS
           have HKS := lH hks
           clear hr hO hK hD hDo hS hks
           by_cases hlt : j < T.length
           · obtain ⟨_, _, _, _, e1, _, _, _, _⟩ := qQa.elem hTr j hlt
             simp at e1
             obtain ⟨rfl, rfl⟩ := e1
             have cw := qQa.int_cell hTr j hlt
             have hst := qZ4 (one := fun k s => qQi d C F k true true s) (K := T) (s := r2b) (j := j) hlt
             rw [<- HR.out] at hst
             have HST := lH hst
             have HISk := lH (HIS.out T[j] (List.getElem_mem hlt))
             clear hst hTr
             generalize T[j] = kk at *
             have hk0 := (qQn.1 HISk.out).1
             cases hc : ks.contains kk with
             | true =>
               have HE : Hid (eachF (fun k s => qQi d C F k true true s) (T.take (j + 1)) r2b = r) := lH (by rw [HST.out, if_neg]; rw [HKS.out kk, hc]; simp)
               go_wp2_with (with_reducible refine qZ0 rfl rfl qQe kI0 hib hzb HSh.out kk rfl rfl ?_; rw [hc])
               go_roundw
               case rel => exact ⟨j + 1, r, by omega, by go_num, HE.out.symm, HO.out, HK.out, HD.out⟩
               case measure => simp [intOf]; omega
             | false =>
               have hhad : r.2.had kk = false := (HKS.out kk).trans hc
               have HE : Hid (eachF (fun k s => qQi d C F k true true s) (T.take (j + 1)) r2b = (r.1 ++ [(qQi d C F kk true true r.2).1], (qQi d C F kk true true r.2).2)) := lH (by rw [HST.out, if_pos ⟨hk0, hhad⟩])
               have cO : Hid (∀ W', NmAt m g h u (.slice (some ⟨b, off, none⟩) d.length cap) cv X e d C W' r.2 -> Calls Tryz.prog 65 #[.pointer (some ⟨g, 0, none⟩), .int .i64 kk, .bool true, .bool true] W' (Rm W' h u (.string ⟨(qQi d C F kk true true r.2).1.toArray⟩) (fun w' => NmAt m g h u (.slice (some ⟨b, off, none⟩) d.length cap) cv X e d C w' (qQi d C F kk true true r.2).2))) := lH (fun W' hW => H1H.out kk true r.2 W' hW HISk.out hhad HFj.out)
               have hsm2 := qJh (HDO.out (j + 1)) HGD.out
               rw [HE.out] at hsm2
               clear hhad
               generalize qQi d C F kk true true r.2 = q at *
               obtain ⟨q1, q2⟩ := q
               simp only at cO HE hsm2
               go_wp2_with (first
 | (with_reducible refine qZ0 rfl rfl qQe kI0 hib hzb HSh.out kk rfl rfl ?_; rw [hc])
 | (go_at_call 65; (with_reducible refine (cO.out _ HK.out).mono ?_); rintro e1 w5 ⟨rfl, d5, k5⟩; have HK5 := lH k5; have HD5 := lH (HD.out.trans d5); have HO5 := lH (d5.own HO.out qQ7 (by have := HLT.out; omega) (by have := HLT.out; omega)); have S5 := d5.size; have c0 := HK5.out.mem.c0; have c2 := HK5.out.mem.c2; clear d5 k5)
 | (at_builtin; go_must (refine qQr rfl _ _ _ rfl qJ6 (by decide) qQ7 qX0 rfl HO5.out rfl ?hg q1 ⟨rfl, rfl⟩ ?hb1 ?hb2 ?hb3 ?_); (case hg => simp); (case hb1 => omega); (case hb2 => omega); (case hb3 => have := HD5.out.size; omega); intro v6 w6 o6 g6; have HO6 := lH o6; have HK6 := lH (NmAt.mk (HK5.out.mem.grown g6 (fun b hb => (HO5.out.lt b hb).1) (by have := HLT.out; omega)) HK5.out.ok); have HD6 := lH (HD5.out.grown g6 (fun b hb => (HO5.out.lt b hb).1)); clear o6 g6))
               go_roundw
               case rel => exact ⟨j + 1, _, by omega, by go_num, HE.out.symm, HO6.out, HK6.out, HD6.out⟩
               case measure => simp [intOf]; omega
           · have hT : T.take j = T := List.take_of_length_le (by omega)
             rw [hT] at HR
             have hjl := qGw r.1
             have cJ : Hid (∀ W' v, qQc 1 qJ1 w3.heap.size 9 W' v r.1 -> Calls Tryz.prog 69 #[v] W' (Rb (.string ⟨(join r.1).toArray⟩) W')) := lH (fun W' v ho => (qJq _ v r.1 W' ho.row (by omega)).mono (fun _ _ h => h.rb))
             have cS : Hid (∀ W', Calls Tryz.prog 23 #[.string ⟨(join r.1).toArray⟩] W' (Rb (.string ⟨(qQg (join r.1)).toArray⟩) W')) := lH (fun W' => qZr _ W' (by omega))
             have hq3 := HQ3.out
             unfold qJp at hq3
             rw [HIT.out, <- HR.out] at hq3
             simp only [Prod.mk.injEq] at hq3
             obtain ⟨hqa, rfl⟩ := hq3
             rw [<- hqa] at cS
             have HD := lH (HD20.out.trans ((Nmd.bel HBW3.out).trans HD.out))
             clear hT hTr hjl hsm hqa
             obtain ⟨JN, hJN⟩ : ∃ x, x = join r.1 := ⟨_, rfl⟩
             rw [<- hJN] at cJ cS
             clear hJN
             go_wp2_with (first
 | (go_at_call 69; (with_reducible refine (cJ.out _ _ HO.out).mono ?_); rintro e1 w14 ⟨rfl, b4⟩; have HD := lH (HD.out.trans (Nmd.bel b4)); have HK := lH (NmAt.mk (HK.out.mem.bel b4) HK.out.ok); clear b4)
 | (go_at_call 23; (with_reducible refine (cS.out _).mono ?_); rintro e1 w15 ⟨rfl, b5⟩; have HD := lH (HD.out.trans (Nmd.bel b5)); have HK := lH (NmAt.mk (HK.out.mem.bel b5) HK.out.ok); have c0 := HK.out.mem.c0; have t1 := HTG.out _ _ HK.out.mem; have t2 := HTX.out _ _ HK.out.mem; clear b5; cases he3 : q3a.isEmpty)
 | (go_at_call 67; (with_reducible refine (cAt3.out _ _ HK.out.mem).mono ?_); rintro e1 w8 ⟨rfl, b3⟩; have HD := lH (HD.out.trans (Nmd.bel b3)); have HK := lH (NmAt.mk (HK.out.mem.bel b3) HK.out.ok); clear b3))
             all_goals
             go_ret
             have hRv := HR0.out
             first
              | (simp [htg, he1, helb, hb12, he2, he3] at hRv; subst hRv; exact ⟨rfl, HD.out, HK.out⟩)
              | (simp [htg, helb, hb12, he2, he3] at hRv; subst hRv; exact ⟨rfl, HD.out, HK.out⟩)
              | (simp [htg, he1, helb, he2, he3] at hRv; subst hRv; exact ⟨rfl, HD.out, HK.out⟩)
              | (simp [htg, he1, helb, he2] at hRv; subst hRv; exact ⟨rfl, HD.out, HK.out⟩)
              | (simp [htg, helb, he2] at hRv; subst hRv; exact ⟨rfl, HD.out, HK.out⟩)
              | (simp [htg, he1, helb, hb12, he2] at hRv; subst hRv; exact ⟨rfl, HD.out, HK.out⟩)
              | (simp [htg, helb, hb12, he2] at hRv; subst hRv; exact ⟨rfl, HD.out, HK.out⟩)
              | (simp [htg, helb, hb12] at hRv; subst hRv; exact ⟨rfl, HD.out, HK.out⟩)
              | (simp [htg, he1, helb] at hRv; subst hRv; exact ⟨rfl, HD.out, HK.out⟩)
              | (simp [htg, helb] at hRv; subst hRv; exact ⟨rfl, HD.out, HK.out⟩)
              | (simp [htg, he1] at hRv; subst hRv; exact ⟨rfl, HD.out, HK.out⟩)
              | (simp [htg] at hRv; subst hRv; exact ⟨rfl, HD.out, HK.out⟩)
   | false =>
     cases htg : tg.isEmpty
     all_goals
      go_enter Tryz.func65, Tryz.ntmps65
      go_wp2
      go_loopw [9] (fun z wr => ∃ (x : Int) (s' : St), z = .int .i64 x /\ Mark d (p : Int) s x s' /\ NmM m g h u (.slice (some ⟨b, off, none⟩) d.length cap) cv X e d C wr s' /\ Nmd h u W wr) (fun z _ => qVm μ (intOf z))
      case atStart => exact ⟨(p : Int), s, rfl, HMS.out, HK0.out.mem, Nmd.refl _⟩
      case round =>
       obtain ⟨x, s', rfl, hM, hK, hD⟩ := hrel
       have HMk := lH hM
       have HKr := lH hK
       have HD := lH hD
       have c0 := hK.c0
       have c3 := hK.c3
       obtain ⟨ks, hS, hks⟩ := hK.use
       have HSu := lH hS
       have HKS := lH hks
       clear hM hK hD hS hks
       by_cases hx : 0 <= x
       · have HST := lH (HMk.out.step HGD.out hx)
         go_wp2_with (first
 | (with_reducible refine qQ0 rfl (.inr rfl) qQe kI0 HSu.out x rfl rfl rfl ?_; intro w1 q1 g1 z1; have HK1 := lH (HKr.out.ask HKS.out q1 g1); have HD1 := lH (HD.out.trans (Nmd.use g1)); have c0 := HK1.out.c0; have c3 := HK1.out.c3; clear q1 g1 z1)
 | (go_at_call 64; (with_reducible refine (cUp.out _ _ HK1.out x).mono ?_); rintro e1 w2 ⟨rfl, b2⟩; have HK2 := lH (HK1.out.bel b2); have HD2 := lH (HD1.out.trans (Nmd.bel b2)); have c0 := HK2.out.c0; have c3 := HK2.out.c3; clear b2))
         go_roundw
         case rel => exact ⟨upR d x, _, rfl, HST.out, HK2.out, HD2.out⟩
         case measure => exact qJy hx (HMU.out x)
       · have hx' : x < 0 := by omega
         have hk1 := HKr.out.congr (s' := markM d (p : Int) s) (fun y => (HMk.out.had y).symm) (HMk.out.done HGD.out (.inl hx'))
         have HK1 := lH hk1
         have c2 := hk1.c2
         obtain ⟨ks, hS, hks⟩ := hk1.had
         have HS1 := lH hS
         have HKS1 := lH hks
         clear hk1 hS hks HKr HMk HSu HKS
         go_upto_region 24 with (first
 | (with_reducible refine qQ0 rfl (.inr rfl) qQe kI0 HS1.out (p : Int) rfl rfl rfl ?_; intro w2 q2 g2 z2; have HK := lH (HHIT.out _ _ _ HK1.out HKS1.out q2 g2); have HD := lH (HD.out.trans (Nmd.had g2)); have c0 := HK.out.mem.c0; have t1 := HTG.out _ _ HK.out.mem; have t2 := HTX.out _ _ HK.out.mem; clear q2 g2 z2)
 | (go_at_call 24; (with_reducible refine (cHid.out _ _ HK.out.mem).mono ?_); rintro e1 w3 ⟨rfl, b3⟩; have HD := lH (HD.out.trans (Nmd.bel b3)); have HK := lH (NmAt.mk (HK.out.mem.bel b3) HK.out.ok); have c0 := HK.out.mem.c0; have t1 := HTG.out _ _ HK.out.mem; have t2 := HTX.out _ _ HK.out.mem; clear b3; cases hd)
 | (go_at_call 23; (with_reducible refine (cSq.out _).mono ?_); rintro e1 w4 ⟨rfl, b3⟩; have HD := lH (HD.out.trans (Nmd.bel b3)); have HK := lH (NmAt.mk (HK.out.mem.bel b3) HK.out.ok); clear b3)
 | (go_at_call 66; (with_reducible refine (cLi2.out _ HK.out).mono ?_); rintro e1 w5 ⟨rfl, d3, k3⟩; have HD := lH (HD.out.trans d3); have HK := lH k3; have c0 := HK.out.mem.c0; have t1 := HTG.out _ _ HK.out.mem; have t2 := HTX.out _ _ HK.out.mem; clear d3 k3; cases he1 : r1a.isEmpty)
 | (go_at_call 67; (with_reducible refine (cAt1.out _ _ HK.out.mem).mono ?_); rintro e1 w6 ⟨rfl, b3⟩; have HD := lH (HD.out.trans (Nmd.bel b3)); have HK := lH (NmAt.mk (HK.out.mem.bel b3) HK.out.ok); have c0 := HK.out.mem.c0; have t1 := HTG.out _ _ HK.out.mem; have t2 := HTX.out _ _ HK.out.mem; clear b3; cases helb : lb.isEmpty)
 | (go_at_call 26; (with_reducible refine (cRo.out _ _ HK.out.mem).mono ?_); rintro e1 w9 ⟨rfl, b3⟩; have HD := lH (HD.out.trans (Nmd.bel b3)); have HK := lH (NmAt.mk (HK.out.mem.bel b3) HK.out.ok); have c0 := HK.out.mem.c0; have t1 := HTG.out _ _ HK.out.mem; have t2 := HTX.out _ _ HK.out.mem; clear b3; cases hb12 : (rl == 12))
 | (go_at_call 108; (with_reducible refine (cHo.out _ HK.out).mono ?_); rintro e1 w10 ⟨rfl, d3, k3⟩; have HD := lH (HD.out.trans d3); have HK := lH k3; have c0 := HK.out.mem.c0; have t1 := HTG.out _ _ HK.out.mem; have t2 := HTX.out _ _ HK.out.mem; clear d3 k3; cases he2 : r2a.isEmpty)
 | (go_at_call 25; (with_reducible refine (cKo.out _).mono ?_); rintro e1 w11 ⟨rfl, b3⟩; have HD := lH (HD.out.trans (Nmd.bel b3)); have HK := lH (NmAt.mk (HK.out.mem.bel b3) HK.out.ok); have c0 := HK.out.mem.c0; have t1 := HTG.out _ _ HK.out.mem; have t2 := HTX.out _ _ HK.out.mem; clear b3; cases kcont)
 | (go_at_call 67; (with_reducible refine (cAt3.out _ _ HK.out.mem).mono ?_); rintro e1 w8 ⟨rfl, b3⟩; have HD := lH (HD.out.trans (Nmd.bel b3)); have HK := lH (NmAt.mk (HK.out.mem.bel b3) HK.out.ok); clear b3))
         all_goals
          try (
           go_ret
           have hRv := HR0.out
           first
 | (simp [htg, he1, helb, hb12, he2, he3] at hRv; subst hRv; exact ⟨rfl, HD.out, HK.out⟩)
 | (simp [htg, helb, hb12, he2, he3] at hRv; subst hRv; exact ⟨rfl, HD.out, HK.out⟩)
 | (simp [htg, he1, helb, he2, he3] at hRv; subst hRv; exact ⟨rfl, HD.out, HK.out⟩)
 | (simp [htg, he1, helb, he2] at hRv; subst hRv; exact ⟨rfl, HD.out, HK.out⟩)
 | (simp [htg, helb, he2] at hRv; subst hRv; exact ⟨rfl, HD.out, HK.out⟩)
 | (simp [htg, he1, helb, hb12, he2] at hRv; subst hRv; exact ⟨rfl, HD.out, HK.out⟩)
 | (simp [htg, helb, hb12, he2] at hRv; subst hRv; exact ⟨rfl, HD.out, HK.out⟩)
 | (simp [htg, helb, hb12] at hRv; subst hRv; exact ⟨rfl, HD.out, HK.out⟩)
 | (simp [htg, he1, helb] at hRv; subst hRv; exact ⟨rfl, HD.out, HK.out⟩)
 | (simp [htg, helb] at hRv; subst hRv; exact ⟨rfl, HD.out, HK.out⟩)
 | (simp [htg, he1] at hRv; subst hRv; exact ⟨rfl, HD.out, HK.out⟩)
 | (simp [htg] at hRv; subst hRv; exact ⟨rfl, HD.out, HK.out⟩))
         all_goals
          go_upto_region 25 with fail
          refine qQu (E := fun w' => NmAt m g h u (.slice (some ⟨b, off, none⟩) d.length cap) cv X e d C w' r2b /\ Nmd h u W w') ⟨HK.out, HD.out⟩ ?_
          rintro w20 ⟨hK20, hD20⟩
          have HK20 := lH hK20
          have HD20 := lH hD20
          have hlt := hK20.mem.lts
          have HLT := lH hlt
          have c0 := hK20.mem.c0
          have c1 := hK20.mem.c1
          have cI20 := lH (cIn.out w20.drew r2b (hK20.mem.bel (Bel.refl w20).drew))
          have hkl := HTL.out
          clear hK20 hD20 HK HD hlt
          go_cut [120, 121, 122] from 111 to 122 (fun y l z w3 => ∃ a c, y = .slice a T.length c /\ l = .int .i64 T.length /\ z = .int .i64 0 /\ Bel w20 w3 /\ qQc 1 qQk w20.heap.size 3 w3 y T)
          case first =>
           go_region_law (refine qKt rfl 109 eIn #[.tmp 114, .tmp 118, .tmp 119] _ rfl (vs := #[.slice (some ⟨b, off, none⟩) d.length cap, cv, .int .i64 (p : Int)]) ?hv cI20.out ?_; (case hv => simp [Act.eval]); rintro e1 w3 ⟨b3, y3, rfl, o3⟩; refine ⟨_, rfl, ?_⟩; have HT := lH o3; have HBW3 := lH (Bel.then (Bel.refl w20).drew b3); obtain ⟨ta, tc, rfl, t1, t2⟩ := qQa.form o3.read; clear b3 o3)
           all_goals (go_wp2_with fail; go_meet; exact ⟨ta, tc, rfl, rfl, rfl, HBW3.out, HT.out⟩)
          case rest =>
          obtain ⟨ta, tc, rfl, rfl, rfl, hB3, hT⟩ := hcut
          have HT := lH hT
          have HBW3 := lH hB3
          have S3 := hB3.size
          obtain ⟨_, _, e3, t1, t2⟩ := qQa.form hT.read
          clear hT hB3 e3
          generalize wc = w3 at *
          go_wp2
          go_loopw [122, 14] (fun z o wr => ∃ (j : Nat) (r : List Txt × St), j <= T.length /\ z = .int .i64 j /\ r = eachF (fun k s => qQi d C F k true false s) (T.take j) r2b /\ qQc 1 qJ1 w3.heap.size 9 wr o r.1 /\ NmAt m g h u (.slice (some ⟨b, off, none⟩) d.length cap) cv X e d C wr r.2 /\ Nmd h u w3 wr) (fun z _ _ => T.length - (intOf z).toNat)
          case atStart => exact ⟨0, ([], r2b), by omega, rfl, rfl, qQc.nil _ _ _, ⟨HK20.out.mem.bel HBW3.out, HK20.out.ok⟩, Nmd.refl _⟩
          case round =>
           obtain ⟨j, r, hj, rfl, hr, hO, hK, hD⟩ := hrel
           have HR := lH hr
           have HO := lH hO
           have HK := lH hK
           have HD := lH hD
           have hDo := HDO.out j
           rw [<- hr] at hDo
           have hsm := qJh hDo HGD.out
           have HFj : Hid (qZa d r.2.had <= F) := lH (Nat.le_trans hDo.free HF3H.out)
           have hTr : qQa 1 qQk (fun b => w20.heap.size <= b /\ b < w3.heap.size) wr (.slice ta T.length tc) T := hD.row (HT.out.row.mono (fun _ h => ⟨h.1, h.2.1⟩) (fun _ _ _ h => h)) qQd (fun b hb => by have := HLT.out; omega)
           have c0 := hK.mem.c0
           have c2 := hK.mem.c2
           have SD := hD.size
           obtain ⟨oa, oc, rfl, o1, o2⟩ := qQa.form hO.read
           obtain ⟨ks, hS, hks⟩ := hK.mem.had
           have HSh := lH hS
           have HKS := lH hks
           clear hr hO hK hD hDo hS hks
           by_cases hlt : j < T.length
           · obtain ⟨_, _, _, _, e1, _, _, _, _⟩ := qQa.elem hTr j hlt
             simp at e1
             obtain ⟨rfl, rfl⟩ := e1
             have cw := qQa.int_cell hTr j hlt
             have hst := qZ4 (one := fun k s => qQi d C F k true false s) (K := T) (s := r2b) (j := j) hlt
             rw [<- HR.out] at hst
             have HST := lH hst
             have HISk := lH (HIS.out T[j] (List.getElem_mem hlt))
             clear hst hTr
             generalize T[j] = kk at *
             have hk0 := (qQn.1 HISk.out).1
             cases hc : ks.contains kk with
             | true =>
               have HE : Hid (eachF (fun k s => qQi d C F k true false s) (T.take (j + 1)) r2b = r) := lH (by rw [HST.out, if_neg]; rw [HKS.out kk, hc]; simp)
               go_wp2_with (with_reducible refine qZ0 rfl rfl qQe kI0 hib hzb HSh.out kk rfl rfl ?_; rw [hc])
               go_roundw
               case rel => exact ⟨j + 1, r, by omega, by go_num, HE.out.symm, HO.out, HK.out, HD.out⟩
               case measure => simp [intOf]; omega
             | false =>
               have hhad : r.2.had kk = false := (HKS.out kk).trans hc
               have HE : Hid (eachF (fun k s => qQi d C F k true false s) (T.take (j + 1)) r2b = (r.1 ++ [(qQi d C F kk true false r.2).1], (qQi d C F kk true false r.2).2)) := lH (by rw [HST.out, if_pos ⟨hk0, hhad⟩])
               have cO : Hid (∀ W', NmAt m g h u (.slice (some ⟨b, off, none⟩) d.length cap) cv X e d C W' r.2 -> Calls Tryz.prog 65 #[.pointer (some ⟨g, 0, none⟩), .int .i64 kk, .bool true, .bool false] W' (Rm W' h u (.string ⟨(qQi d C F kk true false r.2).1.toArray⟩) (fun w' => NmAt m g h u (.slice (some ⟨b, off, none⟩) d.length cap) cv X e d C w' (qQi d C F kk true false r.2).2))) := lH (fun W' hW => H1H.out kk false r.2 W' hW HISk.out hhad HFj.out)
               have hsm2 := qJh (HDO.out (j + 1)) HGD.out
               rw [HE.out] at hsm2
               clear hhad
               generalize qQi d C F kk true false r.2 = q at *
               obtain ⟨q1, q2⟩ := q
               simp only at cO HE hsm2
               go_wp2_with (first
 | (with_reducible refine qZ0 rfl rfl qQe kI0 hib hzb HSh.out kk rfl rfl ?_; rw [hc])
 | (go_at_call 65; (with_reducible refine (cO.out _ HK.out).mono ?_); rintro e1 w5 ⟨rfl, d5, k5⟩; have HK5 := lH k5; have HD5 := lH (HD.out.trans d5); have HO5 := lH (d5.own HO.out qQ7 (by have := HLT.out; omega) (by have := HLT.out; omega)); have S5 := d5.size; have c0 := HK5.out.mem.c0; have c2 := HK5.out.mem.c2; clear d5 k5)
 | (at_builtin; go_must (refine qQr rfl _ _ _ rfl qJ6 (by decide) qQ7 qX0 rfl HO5.out rfl ?hg q1 ⟨rfl, rfl⟩ ?hb1 ?hb2 ?hb3 ?_); (case hg => simp); (case hb1 => omega); (case hb2 => omega); (case hb3 => have := HD5.out.size; omega); intro v6 w6 o6 g6; have HO6 := lH o6; have HK6 := lH (NmAt.mk (HK5.out.mem.grown g6 (fun b hb => (HO5.out.lt b hb).1) (by have := HLT.out; omega)) HK5.out.ok); have HD6 := lH (HD5.out.grown g6 (fun b hb => (HO5.out.lt b hb).1)); clear o6 g6))
               go_roundw
               case rel => exact ⟨j + 1, _, by omega, by go_num, HE.out.symm, HO6.out, HK6.out, HD6.out⟩
               case measure => simp [intOf]; omega
           · have hT : T.take j = T := List.take_of_length_le (by omega)
             rw [hT] at HR
             have hjl := qGw r.1
             have cJ : Hid (∀ W' v, qQc 1 qJ1 w3.heap.size 9 W' v r.1 -> Calls Tryz.prog 69 #[v] W' (Rb (.string ⟨(join r.1).toArray⟩) W')) := lH (fun W' v ho => (qJq _ v r.1 W' ho.row (by omega)).mono (fun _ _ h => h.rb))
             have cS : Hid (∀ W', Calls Tryz.prog 23 #[.string ⟨(join r.1).toArray⟩] W' (Rb (.string ⟨(qQg (join r.1)).toArray⟩) W')) := lH (fun W' => qZr _ W' (by omega))
             have hq3 := HQ3.out
             unfold qJp at hq3
             rw [HIT.out, <- HR.out] at hq3
             simp only [Prod.mk.injEq] at hq3
             obtain ⟨hqa, rfl⟩ := hq3
             rw [<- hqa] at cS
             have HD := lH (HD20.out.trans ((Nmd.bel HBW3.out).trans HD.out))
             clear hT hTr hjl hsm hqa
             obtain ⟨JN, hJN⟩ : ∃ x, x = join r.1 := ⟨_, rfl⟩
             rw [<- hJN] at cJ cS
             clear hJN
             go_wp2_with (first
 | (go_at_call 69; (with_reducible refine (cJ.out _ _ HO.out).mono ?_); rintro e1 w14 ⟨rfl, b4⟩; have HD := lH (HD.out.trans (Nmd.bel b4)); have HK := lH (NmAt.mk (HK.out.mem.bel b4) HK.out.ok); clear b4)
 | (go_at_call 23; (with_reducible refine (cS.out _).mono ?_); rintro e1 w15 ⟨rfl, b5⟩; have HD := lH (HD.out.trans (Nmd.bel b5)); have HK := lH (NmAt.mk (HK.out.mem.bel b5) HK.out.ok); have c0 := HK.out.mem.c0; have t1 := HTG.out _ _ HK.out.mem; have t2 := HTX.out _ _ HK.out.mem; clear b5; cases he3 : q3a.isEmpty)
 | (go_at_call 67; (with_reducible refine (cAt3.out _ _ HK.out.mem).mono ?_); rintro e1 w8 ⟨rfl, b3⟩; have HD := lH (HD.out.trans (Nmd.bel b3)); have HK := lH (NmAt.mk (HK.out.mem.bel b3) HK.out.ok); clear b3))
             all_goals
             go_ret
             have hRv := HR0.out
             first
              | (simp [htg, he1, helb, hb12, he2, he3] at hRv; subst hRv; exact ⟨rfl, HD.out, HK.out⟩)
              | (simp [htg, helb, hb12, he2, he3] at hRv; subst hRv; exact ⟨rfl, HD.out, HK.out⟩)
              | (simp [htg, he1, helb, he2, he3] at hRv; subst hRv; exact ⟨rfl, HD.out, HK.out⟩)
              | (simp [htg, he1, helb, he2] at hRv; subst hRv; exact ⟨rfl, HD.out, HK.out⟩)
              | (simp [htg, helb, he2] at hRv; subst hRv; exact ⟨rfl, HD.out, HK.out⟩)
              | (simp [htg, he1, helb, hb12, he2] at hRv; subst hRv; exact ⟨rfl, HD.out, HK.out⟩)
              | (simp [htg, helb, hb12, he2] at hRv; subst hRv; exact ⟨rfl, HD.out, HK.out⟩)
              | (simp [htg, helb, hb12] at hRv; subst hRv; exact ⟨rfl, HD.out, HK.out⟩)
              | (simp [htg, he1, helb] at hRv; subst hRv; exact ⟨rfl, HD.out, HK.out⟩)
              | (simp [htg, helb] at hRv; subst hRv; exact ⟨rfl, HD.out, HK.out⟩)
              | (simp [htg, he1] at hRv; subst hRv; exact ⟨rfl, HD.out, HK.out⟩)
              | (simp [htg] at hRv; subst hRv; exact ⟨rfl, HD.out, HK.out⟩)
end Go.Proofs.YtklbmkaomojciaaGreat
