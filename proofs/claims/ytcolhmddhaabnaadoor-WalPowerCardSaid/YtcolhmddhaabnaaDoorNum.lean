import Derived.Test.YtcolhmddhaabnaaDoorIsf
import Derived.Test.YtcolhmddhaabnaaDoorVn
import Derived.Test.YtcolhmddhaabnaaDoorKeep
set_option linter.unusedVariables false
set_option maxRecDepth 100000
namespace Go.Proofs.YtcolhmddhaabnaaDoor
open Go.H
/-! ### bullanum.Num -/
abbrev eV (a : Addr) : Value := .iface 149 (.pointer (some a))
structure NumEnv (o : Own) (h : Hp) (ad : Nat → Addr) : Prop where
  own : ∀ g, g < 28 → o g = (0, 0) ∧ o (ad g).block = (0, 0)
  var : ∀ g, g < 28 → ∃ E fr, h g = some (.cells #[eV (ad g)] E fr)
  cell : ∀ g, g < 28 → ∃ c t, h (ad g).block = some (.cells c t (0, 0))
  inj : ∀ g g', g < 28 → g' < 28 → ad g = ad g' → g = g'
theorem NumEnv.step {S : Tag → Prop} {o o' : Own} {h h' : Hp} {ad : Nat → Addr} (H : NumEnv o h ad) (s : Step S o h o' h') (h0 : ¬ S (0, 0)) : NumEnv o' h' ad := by
  refine ⟨fun g hg => ?_, fun g hg => ?_, fun g hg => ?_, H.inj⟩
  · obtain ⟨E, fr, e⟩ := H.var g hg
    obtain ⟨c, t, e2⟩ := H.cell g hg
    exact ⟨((s.at e (by rw [(H.own g hg).1]; exact h0)).2).trans (H.own g hg).1, ((s.at e2 (by rw [(H.own g hg).2]; exact h0)).2).trans (H.own g hg).2⟩
  · obtain ⟨E, fr, e⟩ := H.var g hg
    exact ⟨E, fr, (s.at e (by rw [(H.own g hg).1]; exact h0)).1⟩
  · obtain ⟨c, t, e2⟩ := H.cell g hg
    exact ⟨c, t, (s.at e2 (by rw [(H.own g hg).2]; exact h0)).1⟩
theorem NumEnv.own0 {o : Own} {h : Hp} {ad : Nat → Addr} (H : NumEnv o h ad) : NumEnv ownZ h ad := ⟨fun _ _ => ⟨rfl, rfl⟩, H.var, H.cell, H.inj⟩
theorem NumEnv.err {o : Own} {h : Hp} {ad : Nat → Addr} (H : NumEnv o h ad) {g : Nat} (hg : g < 28) : ErrAt o h g (eV (ad g)) := ⟨(H.own g hg).1, H.var g hg, _, _, rfl⟩
theorem eis_ok {h : Hp} {a b : Addr} {K : Value → Hp → Prop} (ha : ∃ c t, h a.block = some (.cells c t (0, 0))) (hb : ∃ c t, h b.block = some (.cells c t (0, 0))) (H : K (.bool (decide (a = b))) h) : Go.H.Spec P 47 #[eV a, eV b] h K := by
  obtain ⟨ca, ta, ha⟩ := ha
  obtain ⟨cb, tb, hb⟩ := hb
  refine ⟨fits47 _, fun w hw => ?_⟩
  by_cases e : a = b
  · subst e
    refine (isf.is_same a w).mono ?_
    rintro e w' ⟨rfl, rfl⟩
    refine ⟨_, rfl, ?_, Same.refl _⟩
    rw [hw]; simpa using H
  · refine (isf.is_other a b ca cb ta tb w e (by rw [← hw] at ha; exact ha) (by rw [← hw] at hb; exact hb)).mono ?_
    rintro e2 w' ⟨rfl, rfl⟩
    refine ⟨_, rfl, ?_, Same.refl _⟩
    rw [hw]; rw [decide_eq_false e] at H; exact H
def ordN : List Nat := [0, 5, 4, 3, 6, 7, 8, 9, 10, 11, 12, 13, 14, 15, 16, 17, 18, 19, 20, 21, 22, 23, 24, 25, 2, 1, 26, 27]
def posN (g : Nat) : Nat := ordN.idxOf g
theorem posN_ok : ∀ g, g < 28 → posN g < 28 ∧ ordN.getD (posN g) 0 = g := by decide
theorem ordN_lt : ∀ i, i < 28 → ordN.getD i 0 < 28 := by decide
theorem posN_ord : ∀ i, i < 28 → posN (ordN.getD i 0) = i := by decide
theorem elem92 : Elem P 92 31 1 16 := elem_of (by kernel_rfl)
theorem pl_i {v : Value} {A : Prop} (hv : flatV v = true) (H : A) : pl v A := by unfold pl; rw [hv]; exact H
theorem ld_num {o : Own} {h : Hp} {ad : Nat → Addr} {K : Value → Prop} (H : NumEnv o h ad) (g : Nat) (hg : g < 28) (hk : K (eV (ad g))) : ld h ⟨g, 0, none⟩ K := by
  obtain ⟨E, fr, e⟩ := H.var g hg
  exact ld_v e rfl hk
def NmI (ad : Nat → Addr) (g r : Nat) (h0 : Hp) (ns : List Nat) (y0 : Value) (y37 : Option Addr) (y37n y37c : Nat) (y38 y39 : Int) (hh : Hp) : Prop :=
  ∃ i : Nat, ns = [28 - i] ∧ i ≤ posN g ∧ y0 = eV (ad g) ∧ y37 = some ⟨r, 0, none⟩ ∧ y37n = 28 ∧ y37c = 28 ∧ y38 = 28 ∧ y39 = i ∧ hh = h0
theorem num_ok {o : Own} {h : Hp} {ad : Nat → Addr} {g : Nat} {K : Value → Hp → Prop} (hN : NumEnv o h ad) (hg : g < 28) (H : ∀ o' h', Step (fun _ => False) o h o' h' → K (.int .i64 (posN g + 1 : Nat)) h') : Go.H.Spec P 27 #[eV (ad g)] h K := by
  refine S27 (fun ns y0 y37 y37n y37c y38 y39 hh => ∃ r, (h r = none ∧ hh = h.set r (.cells (ordN.map fun k => eV (ad k)).toArray 31)) ∧ NmI ad g r hh ns y0 y37 y37n y37c y38 y39 hh) ?_ ?_
  · rintro k y0 y37 y37n y37c y38 y39 hh ⟨r, ⟨hr, hhr⟩, i, hns, hi, rfl, rfl, rfl, rfl, rfl, rfl, _⟩
    obtain rfl : k = 28 - i := by simpa using hns
    obtain ⟨hp1, hp2⟩ := posN_ok g hg
    have hi28 : i < 28 := by omega
    have hb : hh r = some (.cells (ordN.map fun k => eV (ad k)).toArray 31) := by rw [hhr]; exact Hp.set_same _ _ _
    have st : Step (fun _ => False) o h (o.set r (1, 0)) hh := by rw [hhr]; exact Step.new _ _ hr
    have hN' := hN.step st (by simp)
    have hlo := ordN_lt i hi28
    unfold V27_122
    refine bIf_dec (fun hlt => ?_) (fun hge => absurd hge (by omega))
    refine ix_slice elem92 (by omega) (by omega) ?_
    simp only [Int.toNat_natCast, Nat.mul_one, Nat.zero_add]
    refine ld_v (v := eV (ad (ordN.getD i 0))) hb ?_ ?_
    · have hlen : i < ordN.length := hi28
      rw [List.getElem?_toArray, List.getElem?_map, List.getElem?_eq_getElem hlen]
      simp [hlen]
    refine eis_ok (hN'.cell g hg) (hN'.cell _ hlo) ?_
    refine asBo_i ?_
    refine bIf_dec (fun he => ?_) (fun he => ?_)
    · have hgi := hN.inj _ _ hg hlo he
      have hpi : posN g = i := by rw [hgi]; exact posN_ord i hi28
      have w : IntKind.i64.wrap ((i : Int) + 1) = ((posN g + 1 : Nat) : Int) := by rw [hpi, wrap_i64] <;> omega
      rw [w]
      exact H _ _ st
    · have hpi : i ≠ posN g := by
        intro e
        apply he
        rw [e, hp2]
      refine ⟨28 - (i + 1), by omega, r, ⟨hr, hhr⟩, i + 1, rfl, by omega, rfl, rfl, rfl, rfl, rfl, ?_, rfl⟩
      rw [wrap_i64] <;> omega
  · unfold V27
    refine nle_err (hN.err hg) ?_
    refine bIf_f rfl ?_
    iterate 28 refine ld_num hN _ (by omega) ?_
    iterate 28 refine pl_i rfl ?_
    refine nw_to ?_
    intro r h1 hr hh1
    exact ⟨28, r, ⟨hr, hh1⟩, 0, rfl, by omega, rfl, rfl, rfl, rfl, rfl, rfl, rfl⟩
theorem num_nil {h : Hp} {K : Value → Hp → Prop} (H : K (.int .i64 0) h) : Go.H.Spec P 27 #[.nilIface] h K := by
  refine S27 (fun _ _ _ _ _ _ _ _ => False) (fun _ _ _ _ _ _ _ _ hf => hf.elim) ?_
  unfold V27
  refine nle_nil ?_
  exact bIf_t rfl H
end Go.Proofs.YtcolhmddhaabnaaDoor
