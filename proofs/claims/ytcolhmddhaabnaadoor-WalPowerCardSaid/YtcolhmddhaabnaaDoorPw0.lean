import Derived.Test.YtcolhmddhaabnaaDoorPow1
import Derived.Test.YtcolhmddhaabnaaDoorNum
import Derived.Test.YtcolhmddhaabnaaDoorVpa
import Derived.Test.YtcolhmddhaabnaaDoorVpw
set_option linter.unusedVariables false
set_option maxRecDepth 100000
namespace Go.Proofs.YtcolhmddhaabnaaDoor
open Go.H
theorem NumEnv.wenv {o : Own} {h : Hp} {ad : Nat → Addr} {c : ShaC} (H : NumEnv o h ad) (hc : ShaAt o h c) : WEnv o h ⟨eV (ad 0), eV (ad 1), eV (ad 2)⟩ (eV (ad 4)) c :=
  ⟨⟨H.err (by omega), H.err (by omega), H.err (by omega)⟩, H.err (by omega), hc⟩
/-- (*disk.Disk).Arm -/
theorem arm_ok {o : Own} {h : Hp} {τ d : Nat} {D : DS} {n : Int} {K : Value → Hp → Prop} (hd : DiskAt o h τ d D) (hτ : 2 ≤ τ) (h0 : 0 ≤ n) (h1 : n ≤ 9223372036854775807)
    (H : ∀ o' h', DiskAt o' h' τ d { D with armed := true, left := n } → Step (Of τ) o h o' h' → K .nilIface h') : Go.H.Spec P 26 #[.pointer (some ⟨d, 0, none⟩), .int .i64 n] h K := by
  obtain ⟨cs, E, b1, b2, b3⟩ := hd
  refine S26 ?_
  unfold V26
  refine bIf_dec (fun hlt => absurd hlt (by omega)) (fun _ => ?_)
  refine st_v b1 (Loose.zero _) rfl (by rw [b3.size]; show 0 + 8 < 11; omega) ?_
  refine st_v (Hp.set_same _ _ _) (Loose.zero _) rfl (by simp; rw [b3.size]; show 0 + 9 < 11; omega) ?_
  simp only [Hp.set_set, Nat.zero_add]
  have sp : Step (fun t => t = (τ, 0)) o h o (h.set d (.cells ((cs.setIfInBounds 8 (.bool true)).setIfInBounds 9 (.int .i64 n)) E)) := Step.put _ b2
  obtain ⟨wa, wn, wc, w1, w2⟩ := b3.waits
  refine H o _ ⟨_, E, Hp.set_same _ _ _, b2, ⟨by simp [b3.size], ?_, (b3.sure.step sp (by intro k hk; simp)).cells ?_, (b3.seen.step sp (by intro k hk; simp)).cells ?_, ⟨wa, wn, wc, ?_, w2.step sp (by simp <;> omega) (by simp)⟩, ?_, ?_, ?_, ⟨h0, h1⟩, b3.rooms, ⟨b3.ok.sures, b3.ok.seens, b3.ok.chs⟩⟩⟩ (sp.mono (by rintro _ rfl; rfl))
  · simp only [Array.getElem?_setIfInBounds]; simpa using b3.room
  · intro k hk
    simp only [Array.getElem?_setIfInBounds]
    rw [if_neg (by omega), if_neg (by omega)]
  · intro k hk
    simp only [Array.getElem?_setIfInBounds]
    rw [if_neg (by omega), if_neg (by omega)]
  · simp only [Array.getElem?_setIfInBounds]; simpa using w1
  · simp [Array.getElem?_setIfInBounds, b3.size]
  · simp [Array.getElem?_setIfInBounds, b3.size]
  · simp only [Array.getElem?_setIfInBounds]; simpa using b3.gone
/-! ### The end of the law -/
abbrev PwInv := List Nat → Addr → Option Addr → Option Addr → ByteArray → Option Addr → Nat → Nat → ByteArray → Option Addr → Nat → Nat → Option Addr → Nat → Nat → Int → Int → Hp → Prop
theorem mOnly {t : Tag} (h : t ≠ (0, 0)) : ∀ u, Only t u → Mut u := by rintro _ rfl; exact h
theorem pow_fin {I : PwInv} {K : Value → Hp → Prop} {o : Own} {h : Hp} {d y : Nat} {L : LS} {on : Bytes} {onr : List Bytes} {t : Tag} {a : Option Addr} {n cp : Nat} {b : Bool} (hy : LogAt o h 4 d y L) (hp : PartsAt o h t a n cp onr) (ht : t = (0, 0))
    (hor : b = true ∨ (L.text = on ∧ L.recs = onr)) (H : ∀ o' h', Step Mut o h o' h' → K (.bool true) h') : V5_s16383 I K (some ⟨y, 0, none⟩) (str on) a n cp b h := by
  subst ht
  unfold V5_s16383
  refine snapshot_ok (t := (0, 0)) hy ?_
  intro o1 h1 a1 n1 c1 k1 s1
  refine asSl_i ?_
  refine str_ok bytes24 k1 ?_
  rw [strEq_str]
  have hLok : L.Ok := by obtain ⟨_, _, _, _, q⟩ := hy; exact q.ok
  refine bIf_ite (fun he => ?_) (fun he => ?_)
  · refine records_ok (t := (5, 2)) (hy.step s1 (by simp) (by simp)) (by simp) (by simp) ?_
    intro o2 h2 a2 n2 c2 k2 s2
    refine asSl_i ?_
    have z : ¬ Only (5, 2) (0, 0) := by unfold Only; simp
    refine sameLists_ok k2 ((hp.step s1 (by simp) (by simp)).step s2 z z) (by have := hLok.recs; omega) ?_
    refine asBo_i ?_
    have sf : Step Mut o h o2 h2 := s1.no.trans (s2.mono (mOnly (by simp)))
    refine bIf_ite (fun hb => ?_) (fun hb => ?_)
    · exact H _ _ sf
    · rcases hor with q | q
      · rw [hb] at q; cases q
      · have : (L.recs == onr) = true := by rw [q.2]; simp
        rw [this]
        exact H _ _ sf
  · refine bIf_ite (fun hb => ?_) (fun hb => ?_)
    · exact H _ _ s1.no
    · rcases hor with q | q
      · rw [hb] at q; cases q
      · rw [q.1] at he; simp at he
/-- The log is opened behind the crash, and shows the one or the other. -/
theorem pow_end {I : PwInv} {K : Value → Hp → Prop} {o : Own} {h : Hp} {d y : Nat} {L : LS} {sn on : Bytes} {rn onr : List Bytes} {a a' : Option Addr} {n cp n' cp' : Nat} (hy : LogAt o h 4 d y L) (hp : PartsAt o h (0, 0) a n cp rn) (hp' : PartsAt o h (0, 0) a' n' cp' onr)
    (hor : (L.text, L.recs) = (sn, rn) ∨ (L.text, L.recs) = (on, onr)) (H : ∀ o' h', Step Mut o h o' h' → K (.bool true) h') :
    Go.H.Spec P 23 #[.pointer (some ⟨y, 0, none⟩)] h fun v76 h77 => asSl v76 fun a78 l79 c80 => oRd P (convert 24 9 (.slice a78 l79 c80)) h77 fun v81 => asStr v81 fun s82 =>
      bIf (strEq s82 (str sn)) (
        Go.H.Spec P 25 #[.pointer (some ⟨y, 0, none⟩)] h77 fun v83 h84 => asSl v83 fun a85 l86 c87 =>
        Go.H.Spec P 24 #[.slice a85 l86 c87, .slice a n cp] h84 fun v88 h89 => asBo v88 fun b90 =>
        V5_s16383 I K (some ⟨y, 0, none⟩) (str on) a' n' cp' b90 h89) (
        V5_s16383 I K (some ⟨y, 0, none⟩) (str on) a' n' cp' false h77) := by
  have hLok : L.Ok := by obtain ⟨_, _, _, _, q⟩ := hy; exact q.ok
  refine snapshot_ok (t := (0, 0)) hy ?_
  intro o1 h1 a1 n1 c1 k1 s1
  refine asSl_i ?_
  refine str_ok bytes24 k1 ?_
  rw [strEq_str]
  have hy1 := hy.step s1 (by simp) (by simp)
  refine bIf_ite (fun he => ?_) (fun he => ?_)
  · refine records_ok (t := (5, 0)) hy1 (by simp) (by simp) ?_
    intro o2 h2 a2 n2 c2 k2 s2
    refine asSl_i ?_
    have z : ¬ Only (5, 0) (0, 0) := by unfold Only; simp
    refine sameLists_ok k2 ((hp.step s1 (by simp) (by simp)).step s2 z z) (by have := hLok.recs; omega) ?_
    refine asBo_i ?_
    have s02 : Step Mut o h o2 h2 := s1.no.trans (s2.mono (mOnly (by simp)))
    refine pow_fin (hy1.step s2 z (by unfold Only; simp)) ((hp'.step s1 (by simp) (by simp)).step s2 z z) rfl ?_ (fun o' h' s => H o' h' (s02.trans s))
    rcases hor with q | q
    · simp only [Prod.mk.injEq] at q
      exact .inl (by rw [q.2]; simp)
    · simp only [Prod.mk.injEq] at q
      exact .inr q
  · refine pow_fin hy1 (hp'.step s1 (by simp) (by simp)) rfl ?_ (fun o' h' s => H o' h' (s1.no.trans s))
    rcases hor with q | q
    · simp only [Prod.mk.injEq] at q
      rw [q.1] at he; simp at he
    · simp only [Prod.mk.injEq] at q
      exact .inr q
end Go.Proofs.YtcolhmddhaabnaaDoor
