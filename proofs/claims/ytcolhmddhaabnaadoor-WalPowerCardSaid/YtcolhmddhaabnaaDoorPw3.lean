import Derived.Test.YtcolhmddhaabnaaDoorPw2
set_option linter.unusedVariables false
set_option maxRecDepth 100000
namespace Go.Proofs.YtcolhmddhaabnaaDoor
open Go.H
theorem power_rem (a : Int) : ∃ n : Nat, IntKind.i64.wrap (Int.tmod (IntKind.u64.wrap a) 200) = (n : Int) ∧ n < 200 := by
  have h0 : 0 ≤ IntKind.u64.wrap a := by
    unfold IntKind.wrap
    simp [IntKind.bits, IntKind.signed]
    omega
  have h1 : 0 ≤ Int.tmod (IntKind.u64.wrap a) 200 := Int.tmod_nonneg _ h0
  have h2 : Int.tmod (IntKind.u64.wrap a) 200 < 200 := Int.tmod_lt_of_pos _ (by omega)
  refine ⟨(Int.tmod (IntKind.u64.wrap a) 200).toNat, ?_, by omega⟩
  rw [wrap_i64] <;> omega
theorem power_ok {o : Own} {h : Hp} {c : ShaC} {ad : Nat → Addr} {l : Option Addr} {ln lc : Nat} {bs : List Bct} {power : Int} {k n t s : Int} {ca : Option Addr} {cn cc : Nat} {K : Value → Hp → Prop} (hN : NumEnv o h ad) (hc : ShaAt o h c) (hl : BctsAt o h l ln lc bs)
    (H : ∀ o' h', Step Mut o h o' h' → K (.bool true) h') : Go.H.Spec P 5 #[.slice l ln lc, .int .i64 power, .agg #[.int .i64 k, .int .i64 n, .int .i64 t, .int .u64 s, .slice ca cn cc]] h K := by
  have hln := hl.count
  subst hln
  refine S5 (PwI o h c l lc bs ⟨k, n, t, s, []⟩) (power_loop hN hc hl H) ?_
  unfold V5
  refine nw_to ?_
  intro r h1 hr hh1
  have s1 : Step (fun _ => False) o h (o.set r (1, 0)) h1 := by rw [hh1]; exact Step.new _ _ hr
  have hb1 : h1 r = some (.cells #[.int .i64 k, .int .i64 n, .int .i64 t, .int .u64 s, .slice ca cn cc] 51) := by rw [hh1]; exact Hp.set_same _ _ _
  have ho1 : (o.set r (1, 0)) r = (1, 0) := Own.set_same _ _ _
  have hw := hN.wenv hc
  refine alive18_ok (hw.step s1 (by simp)) ?_
  intro o2 h2 s2
  refine asBo_i ?_
  refine bIf_f rfl ?_
  have s02 := s1.trans s2
  refine long18_ok (hl.step s02 (by simp)) ?_
  intro o3 h3 b hb s3
  have s03 := s02.trans s3
  refine asBo_i ?_
  cases b with
  | true => exact bIf_t rfl (H _ _ s03.no)
  | false =>
    refine bIf_f rfl ?_
    have h200 := hb rfl
    refine new_ok (τ := 2) (hw.step s03 (by simp)).errs (fun hb => by omega) (fun _ o4 h4 d hd hd4 s4 => ?_)
    have s04 := s03.trans s4
    refine asTu_i (unc_i (asPt_i (unc_i (nilL_i ?_))))
    refine nl_nil (bIf_f rfl ?_)
    obtain ⟨p1, p2, p3, p4⟩ := open_new c 3000
    refine open_ok (τ := 3) (hw.step s04 (by simp)) hd4 (by omega) (by omega) (by omega) (by simp [newD]) (fun r q1 => by rw [p1] at q1; cases q1) ?_
    intro L hL _ o5 h5 x hd5 hx5 _ s5
    rw [p1] at hL hd5
    cases hL
    have s05 : Step Mut o h o5 h5 := s04.no.trans (s5.mono (mTwo (by omega) (by omega)))
    refine asTu_i (xs := [_, _]) (unc_i (asPt_i (unc_i (nilL_i ?_))))
    refine nl_nil (bIf_f rfl ?_)
    obtain ⟨m, hm, hm200⟩ := power_rem power
    rw [hm]
    refine arm_ok hd5 (by omega) (by omega) (by omega) ?_
    intro o6 h6 hd6 s6
    have n00 : ¬ Of 2 (0, 0) := by unfold Of; simp
    have s06 := s05.trans (s6.mono (mOf (by omega)))
    refine nl_nil ?_
    unfold V5_s254
    refine bIf_f rfl ?_
    unfold V5_s127
    refine nw_to ?_
    intro r7 h7 hr7 hh7
    have s7 : Step (fun _ => False) o6 h6 (o6.set r7 (1, 1)) h7 := by rw [hh7]; exact Step.new _ _ hr7
    have s57 : Step (Two 3 2) o4 h4 (o6.set r7 (1, 1)) h7 := (s5.trans (s6.mono (fun t h => .inr h))).trans s7.no
    obtain ⟨f1, f2⟩ := ((s2.trans s3).trans s4).at hb1 (by simp)
    obtain ⟨f3, f4⟩ := s57.at f1 (by rw [f2, ho1]; unfold Two; simp)
    refine ⟨bs.length, 0, d, x, r, o6.set r7 (1, 1), { newD 3000 with armed := true, left := (m : Int) }, loadL c (newD 3000), ca, cn, cc, rfl, by omega, rfl, rfl, rfl, by rw [p4]; rfl, rfl, rfl, rfl, rfl, rfl, rfl, rfl, rfl, rfl,
      by rw [p3]; exact ⟨[], ⟨rfl, Nat.le_refl _, .inl rfl⟩, rfl⟩, f4.trans (f2.trans ho1), f3, hd6.step s7 (by simp) (by simp), (hx5.step s6 n00 (by intro k; unfold Of; simp)).step s7 (by simp) (by simp), ⟨⟨rfl, rfl, rfl, rfl⟩, p2.shows⟩, h200, s06.trans s7.no⟩
end Go.Proofs.YtcolhmddhaabnaaDoor
