import Derived.Test.YtcolhmddhaabnaaDoorPw1
set_option linter.unusedVariables false
set_option maxRecDepth 100000
set_option maxHeartbeats 1000000
namespace Go.Proofs.YtcolhmddhaabnaaDoor
open Go.H
/-- What follows when the next records stand. -/
def PwTail (I : PwInv) (K : Value → Hp → Prop) (k : Nat) (y5 : Addr) (y7 y9 : Option Addr) (y10 : ByteArray) (y11 : Option Addr) (y11n y11c : Nat) (y48 : Option Addr) (y48n y48c : Nat) (y49 y50 : Int) (r14 : Nat) (a36 : Option Addr) (l37 c38 : Nat) (h35 : Hp) : Prop :=
  ld h35 ⟨r14, 0, none⟩ fun v39 => asIn .i64 v39 fun n40 =>
  bIf (n40 == 1) (
    ld h35 ⟨r14, 4, none⟩ fun v41 => asSl v41 fun a42 l43 c44 =>
    oRd P (convert 24 9 (.slice a42 l43 c44)) h35 fun v45 => asStr v45 fun s46 =>
    ld h35 ⟨r14, 4, none⟩ fun v47 => asSl v47 fun a48 l49 c50 =>
    Go.H.Spec P 20 #[(.pointer y9), (.slice a48 l49 c50)] h35 fun v51 h52 =>
    V5_s2095719 I K k y5 y7 y9 y10 y11 y11n y11c s46 none 0 0 v51 y48 y48n y48c y49 y50 h52) (
    ld h35 ⟨r14, 4, none⟩ fun v106 => asSl v106 fun a107 l108 c109 =>
    Go.H.Spec P 21 #[(.pointer y9), (.slice a107 l108 c109)] h35 fun v110 h111 =>
    V5_s2095719 I K k y5 y7 y9 y10 y11 y11n y11c y10 a36 l37 c38 v110 y48 y48n y48c y49 y50 h111)
theorem row1 {o : Own} {h : Hp} {r : Nat} {v : Value} {t : Tag} {E : TypeId} (hb : h r = some (.cells #[v] E)) (ho : o r = t) : Rc o h t 1 (some ⟨r, 0, none⟩) 1 1 [v] := by
  refine ⟨rfl, Nat.le_refl _, .inr ⟨r, 0, _, _, _, rfl, ho, hb, ?_⟩⟩
  intro i w hi
  match i, hi with
  | 0, hi => cases hi; rfl
  | i + 1, hi => simp at hi
/-- The next records: a new row for the old ones and one more. -/
theorem on_join {o o1 : Own} {h h' : Hp} {a b : Option Addr} {n cp m c' : Nat} {l : List Bytes} {p : Bytes} {ba : Option Addr} {bn bc' : Nat} {xs : List Value} (hp : PartsAt o h (0, 0) a n cp l) (hx : RowsOf 1 (PartAt o h) l xs) (hb : Rc o h (0, 0) 1 ba bn bc' (p.map bc))
    (k : Oc o1 h' (6, 0) 1 b m c' (xs ++ [.slice ba bn bc'])) (s : Step Mut ownZ h o1 h') : PartsAt (o.join h o1 fun _ => (0, 0)) h' (0, 0) b m c' (l ++ [p]) ∧ Step (fun _ => False) o h (o.join h o1 fun _ => (0, 0)) h' := by
  have sj : Step (fun _ => False) o h (o.join h o1 fun _ => (0, 0)) h' := s.join _
  refine ⟨⟨_, (k.join (o := o) (f := fun _ => (0, 0)) s (by simp)).read, ?_⟩, sj⟩
  exact (hx.mono fun x cl _ hx => hx.step sj (by simp)).append (RowsOf.one (PartAt.one (hb.step sj (by simp))) rfl)
theorem power_loop {o : Own} {h : Hp} {c : ShaC} {ad : Nat → Addr} {l : Option Addr} {lc : Nat} {bs : List Bct} {cr : Bct} {K : Value → Hp → Prop} (hN : NumEnv o h ad) (hc : ShaAt o h c) (hl : BctsAt o h l bs.length lc bs)
    (H : ∀ o' h', Step Mut o h o' h' → K (.bool true) h') :
    ∀ (k8186 : Nat) (y5 : Addr) (y7 : Option Addr) (y9 : Option Addr) (y10 : ByteArray) (y11 : Option Addr) (y11n y11c : Nat) (y12 : ByteArray) (y13 : Option Addr) (y13n y13c : Nat) (y48 : Option Addr) (y48n y48c : Nat) (y49 : Int) (y50 : Int) (hh : Hp),
      PwI o h c l lc bs cr [k8186] y5 y7 y9 y10 y11 y11n y11c y12 y13 y13n y13c y48 y48n y48c y49 y50 hh → V5_8186 (PwI o h c l lc bs cr) K k8186 y5 y7 y9 y10 y11 y11n y11c y12 y13 y13n y13c y48 y48n y48c y49 y50 hh := by
  have m00 : ¬ Mut (0, 0) := fun q => q rfl
  rintro k y5 y7 y9 y10 y11 y11n y11c y12 y13 y13n y13c y48 y48n y48c y49 y50 hh ⟨i, d, x, rc, o', D, L, ca, cn, cc, hns, hi, rfl, rfl, rfl, rfl, rfl, rfl, rfl, rfl, rfl, rfl, rfl, rfl, rfl, hp, hor, hrc, hd, hx, hpg, h200, st0⟩
  obtain rfl : k = bs.length - i := by simpa using hns
  have hN' := hN.step st0 m00
  have hc' := hc.step st0 m00
  have hLok : L.Ok := by obtain ⟨_, _, _, _, q⟩ := hx; exact q.ok
  have hDw : D.waits = [] := hpg.base.waits
  have h40 := h200.1
  have hrl := hLok.recs
  have hn11 := hp.count
  unfold V5_8186
  refine bIf_dec (fun hlt => ?_) (fun hge => ?_)
  · obtain ⟨b, hb⟩ : ∃ b, bs[i]? = some b := ⟨bs[i]'(by omega), by simp⟩
    have hb200 := h200.2 b (List.mem_of_getElem? hb)
    obtain ⟨bb, off, cs, E, fr, ba, bn, bcap, g0, g1, g2, g3, g4, g5, g7, g8⟩ := (hl.step st0 m00).row hb
    refine g0 _ ?_
    refine ld_i g1 g2 ?_
    refine ld_i g1 g3 ?_
    refine ld_i g1 g4 ?_
    refine ld_i g1 g5 ?_
    refine ld_l g1 g7 ?_
    refine nw_to ?_
    intro r h2 hr hh2
    subst hh2
    iterate 5 refine st_v (Hp.set_same _ _ _) (Loose.zero _) rfl (by simp) ?_
    simp only [Hp.set_set]
    have s2 : Step (fun _ => False) o' hh (o'.set r (1, 0)) (hh.set r (.cells #[.int .i64 b.kind, .int .i64 b.n, .int .i64 b.torn, .int .u64 b.scat, .slice ba bn bcap] 51)) := Step.new _ _ hr
    generalize hg3 : Hp.set hh r _ = h3
    have hg4 : h3 = hh.set r (.cells #[.int .i64 b.kind, .int .i64 b.n, .int .i64 b.torn, .int .u64 b.scat, .slice ba bn bcap] 51) := hg3.symm.trans (congrArg (fun C => hh.set r (.cells C 51)) (by kernel_rfl))
    have hr3 : h3 r = some (.cells #[.int .i64 b.kind, .int .i64 b.n, .int .i64 b.torn, .int .u64 b.scat, .slice ba bn bcap] 51) := by rw [hg4]; exact Hp.set_same _ _ _
    rw [← hg4] at s2
    generalize ho2 : o'.set r (1, 0) = o2 at *
    have hp2 := hp.step s2 (by simp) (by simp)
    have hb2 := g8.step s2 (by simp)
    obtain ⟨xs, hx1, hx2⟩ := id hp2
    have hx10 := hx1.own0
    refine ld_l hr3 rfl ?_
    have tail : ∀ (oJ : Own) (hJ : Hp) (a5 : Option Addr) (n5 c5 : Nat), PartsAt oJ hJ (0, 0) a5 n5 c5 (L.recs ++ [b.bytes]) → Step (fun _ => False) o2 h3 oJ hJ →
        PwTail (PwI o h c y48 y48c bs cr) K (bs.length - i) ⟨rc, 0, none⟩ (some ⟨d, 0, none⟩) (some ⟨x, 0, none⟩) (str L.text) y13 y13n y13c y48 bs.length y48c (bs.length : Int) (i : Int) r a5 n5 c5 hJ := by
      intro oJ hJ a5 n5 c5 hpJ sJ
      have sA : Step (fun _ => False) o' hh oJ hJ := s2.trans sJ
      obtain ⟨q1, q2⟩ := sJ.at hr3 (by simp)
      have hNJ := hN'.step sA (by simp)
      have hcJ := hc'.step sA (by simp)
      have hdJ := hd.step sA (by simp) (by simp)
      have hxJ := hx.step sA (by simp) (by simp)
      have hbJ := hb2.step sJ (by simp)
      obtain ⟨w1, w2⟩ := sA.at hrc (by simp)
      have hpJ0 := hp.step sA (by simp) (by simp)
      have t00 : ¬ Two 3 2 (0, 0) := by unfold Two; simp
      have t10 : ¬ Two 3 2 (oJ rc) := by rw [w2, hor]; unfold Two; simp
      unfold PwTail
      refine ld_i q1 rfl ?_
      refine bIf_ite (fun hk => ?_) (fun hk => ?_)
      · refine ld_l q1 rfl ?_
        refine str_ok bytes24 hbJ ?_
        refine ld_l q1 rfl ?_
        refine compact_ok (hNJ.wenv hcJ) hdJ hxJ (by omega) (by omega) (by omega) (by rw [hDw]; simp) hbJ (by omega) ?_
        intro o4 h4 hd4 hx4 s4
        obtain ⟨v1, v2⟩ := s4.at w1 t10
        have cp := compact_pow (t := b.bytes) hpg hLok (by omega)
        refine pow_err (D := D) (L := L) (on := b.bytes) (onr := []) (hNJ.step s4 t00) (hcJ.step s4 t00) (by omega) (hpJ0.step s4 t00 t00) ⟨[], Rc.none, rfl⟩ (v2.trans (w2.trans hor)) v1 hd4 hx4 hpg h200 ?_ cp.2.1 cp.2.2.1 cp.2.2.2 ((st0.trans sA.no).trans (s4.mono (mTwo (by omega) (by omega)))) H
        have hsw := sw_waits c D (L.gen + 1) (1 - L.slot) b.bytes
        rw [hDw] at hsw
        unfold compD
        (repeat' split) <;> simp only [hDw, List.length_nil] at * <;> omega
      · refine ld_l q1 rfl ?_
        refine append_ok (hNJ.wenv hcJ) hdJ hxJ (by omega) (by omega) (by omega) (by rw [hDw]; simp) hbJ (by simp) (by simp) (by omega) ?_
        intro o4 h4 hd4 hx4 s4
        obtain ⟨v1, v2⟩ := s4.at w1 t10
        have cp := append_pow (t := b.bytes) hpg hLok
        refine pow_err (D := D) (L := L) (on := L.text) (onr := L.recs ++ [b.bytes]) (hNJ.step s4 t00) (hcJ.step s4 t00) (by omega) (hpJ0.step s4 t00 t00) (hpJ.step s4 t00 t00) (v2.trans (w2.trans hor)) v1 hd4 hx4 hpg h200 ?_ cp.2.1 cp.2.2.1 cp.2.2.2 ((st0.trans sA.no).trans (s4.mono (mTwo (by omega) (by omega)))) H
        have hsw := ws_waits D 2 L.fin (recB c L.gen L.recs.length b.bytes)
        rw [hDw] at hsw
        unfold appD
        (repeat' split) <;> simp only [hDw, List.length_nil] at * <;> omega
    -- the rows of the next records, in each order
    have plain : ∀ y ∈ xs, flatV y = true := by
      intro y hy
      obtain ⟨j, hj⟩ := List.mem_iff_getElem?.1 hy
      have hlen := hx2.length
      have hjl : j < L.recs.length := by have := (List.getElem?_eq_some_iff.1 hj).1; omega
      obtain ⟨cl, f1, ⟨a0, m0, c0, e0, _⟩, f3⟩ := hx2.get (i := j) (x := L.recs[j]) (by simp [hjl])
      have := f3 0 (.slice a0 m0 c0) (by rw [e0]; rfl)
      rw [Nat.mul_one, Nat.add_zero, hj] at this
      cases this; rfl
    have plain1 : ∀ y ∈ [Value.slice ba bn bcap], flatV y = true := by intro y hy; simp at hy; subst hy; rfl
    have m61 : ∀ t, Only (6, 0) t → Mut t := mOnly (by simp)
    have z60 : ¬ Only (6, 0) (0, 0) := by unfold Only; simp
    have z61 : ¬ Only (6, 0) (6, 1) := by unfold Only; simp
    refine ⟨?_, ?_⟩
    · refine nw_to ?_
      intro r1 h4 hr1 hh4
      have s4 : Step (fun _ => False) ownZ h3 (ownZ.set r1 (6, 2)) h4 := by rw [hh4]; exact Step.new _ _ hr1
      have e4 := (s4.at hr3 (by simp)).1
      refine ⟨same_at hr3 e4 leaf24 rfl, ?_, ?_⟩
      · refine append_own (o := ownZ.set r1 (6, 2)) (t := (6, 0)) elem44 (Oc.nil _) (hx10.step s4 (by simp)).src plain (by omega) (by omega) ?_
        intro a6 c6 o6 h6 k6 s6 _
        refine asSl_i ?_
        have e6 := (s6.at e4 (by rw [(s4.at hr3 (by simp)).2]; exact z60)).1
        refine ⟨same_at hr3 e6 leaf24 rfl, ?_⟩
        refine nw_to ?_
        intro r7 h7 hr7 hh7
        have s7 : Step (fun _ => False) o6 h6 (o6.set r7 (6, 1)) h7 := by rw [hh7]; exact Step.new _ _ hr7
        have hb7 : h7 r7 = some (.cells #[.slice ba bn bcap] 24) := by rw [hh7]; exact Hp.set_same _ _ _
        refine append_own (t := (6, 0)) elem44 (k6.step s7 (by simp)) (row1 (o := o6.set r7 (6, 1)) (t := (6, 1)) hb7 (Own.set_same _ _ _)).src plain1 (by omega) (by omega) ?_
        intro a8 c8 o8 h8 k8 s8 _
        refine asSl_i ?_
        have sZ : Step Mut ownZ h3 o8 h8 := ((s4.no.trans (s6.mono m61)).trans s7.no).trans (s8.mono m61)
        rw [List.nil_append] at k8
        obtain ⟨j1, j2⟩ := on_join hp2 hx2 hb2 k8 sZ
        exact tail _ _ _ _ _ j1 j2
      · refine nw_to ?_
        intro r7 h7 hr7 hh7
        have s7 : Step (fun _ => False) (ownZ.set r1 (6, 2)) h4 ((ownZ.set r1 (6, 2)).set r7 (6, 1)) h7 := by rw [hh7]; exact Step.new _ _ hr7
        have hb7 : h7 r7 = some (.cells #[.slice ba bn bcap] 24) := by rw [hh7]; exact Hp.set_same _ _ _
        refine append_own (o := (ownZ.set r1 (6, 2)).set r7 (6, 1)) (t := (6, 0)) elem44 (Oc.nil _) (hx10.step (s4.trans s7) (by simp)).src plain (by omega) (by omega) ?_
        intro a6 c6 o6 h6 k6 s6 _
        refine asSl_i ?_
        have k7 := (row1 (o := (ownZ.set r1 (6, 2)).set r7 (6, 1)) (t := (6, 1)) hb7 (Own.set_same _ _ _)).step s6 z61
        refine append_own (t := (6, 0)) elem44 k6 k7.src plain1 (by omega) (by omega) ?_
        intro a8 c8 o8 h8 k8 s8 _
        refine asSl_i ?_
        have sZ : Step Mut ownZ h3 o8 h8 := ((s4.trans s7).no.trans (s6.mono m61)).trans (s8.mono m61)
        rw [List.nil_append] at k8
        obtain ⟨j1, j2⟩ := on_join hp2 hx2 hb2 k8 sZ
        exact tail _ _ _ _ _ j1 j2
    · refine nw_to ?_
      intro r7 h7 hr7 hh7
      have s7 : Step (fun _ => False) ownZ h3 (ownZ.set r7 (6, 1)) h7 := by rw [hh7]; exact Step.new _ _ hr7
      have hb7 : h7 r7 = some (.cells #[.slice ba bn bcap] 24) := by rw [hh7]; exact Hp.set_same _ _ _
      refine nw_to ?_
      intro r1 h4 hr1 hh4
      have s4 : Step (fun _ => False) (ownZ.set r7 (6, 1)) h7 ((ownZ.set r7 (6, 1)).set r1 (6, 2)) h4 := by rw [hh4]; exact Step.new _ _ hr1
      refine append_own (o := (ownZ.set r7 (6, 1)).set r1 (6, 2)) (t := (6, 0)) elem44 (Oc.nil _) (hx10.step (s7.trans s4) (by simp)).src plain (by omega) (by omega) ?_
      intro a6 c6 o6 h6 k6 s6 _
      refine asSl_i ?_
      have k7 := ((row1 (o := ownZ.set r7 (6, 1)) (t := (6, 1)) hb7 (Own.set_same _ _ _)).step s4 (by simp)).step s6 z61
      refine append_own (t := (6, 0)) elem44 k6 k7.src plain1 (by omega) (by omega) ?_
      intro a8 c8 o8 h8 k8 s8 _
      refine asSl_i ?_
      have sZ : Step Mut ownZ h3 o8 h8 := ((s7.trans s4).no.trans (s6.mono m61)).trans (s8.mono m61)
      rw [List.nil_append] at k8
      obtain ⟨j1, j2⟩ := on_join hp2 hx2 hb2 k8 sZ
      exact tail _ _ _ _ _ j1 j2
  · refine ld_i hrc rfl ?_
    refine ld_i hrc rfl ?_
    refine ld_i hrc rfl ?_
    refine crash_ok hd (by omega) ?_
    intro o3 h3 hd3 s3
    have n00 : ¬ Of 2 (0, 0) := by unfold Of; simp
    obtain ⟨D4, L4, p1, p2⟩ := open_crash c D cr.n cr.scat cr.torn
    refine open_ok (τ := 4) ((hN'.step s3 n00).wenv (hc'.step s3 n00)) hd3 (by omega) (by omega) (by omega) (by simp [crashD]) (fun r q1 => by rw [p1] at q1; cases q1) ?_
    intro L5 hL _ o4 h4 y hd4 hy4 _ s4
    rw [p1] at hL
    cases hL
    have s04 : Step Mut o' hh o4 h4 := (s3.mono (mOf (by omega))).trans (s4.mono (mTwo (by omega) (by omega)))
    refine asTu_i (xs := [_, _]) (unc_i (asPt_i (unc_i (nilL_i ?_))))
    refine nl_nil (bIf_f rfl ?_)
    have t00 : ¬ Two 4 2 (0, 0) := by unfold Two; simp
    have hp4 := (hp.step s3 n00 n00).step s4 t00 t00
    refine pow_end (sn := L.text) (rn := L.recs) (on := L.text) (onr := L.recs) hy4 hp4 hp4 ?_ (fun o' h' s => H o' h' ((st0.trans s04).trans s))
    rw [p2]
    exact pg_either hpg (L.text, L.recs) _ _ _
end Go.Proofs.YtcolhmddhaabnaaDoor
