import Derived.Test.YtcolhmddhaabnaaDoorDisk6
import Derived.Test.YtcolhmddhaabnaaDoorVk
set_option linter.unusedVariables false
set_option maxRecDepth 100000
namespace Go.Proofs.YtcolhmddhaabnaaDoor
open Go.H

theorem bytes24 : BytesT P 24 9 5 := bytes_of (by kernel_rfl)
theorem ErrsAt.of {τ : Nat} {o o' : Own} {h h' : Hp} {e : Errs} (he : ErrsAt o h e) (st : Step (Of τ) o h o' h') (hτ : 2 ≤ τ) : ErrsAt o' h' e := he.step st (by unfold Of; simp; omega)
/-- err == nil -/
theorem nle_nil {K : Bool → Prop} (H : K true) : nlW P 31 false .nilIface fun v => asBo v K := by
  obtain ⟨ms, hm⟩ := iface31
  unfold nlW; rw [hm]; exact H
theorem nle_err {o : Own} {h : Hp} {g : Nat} {e : Value} {K : Bool → Prop} (H : ErrAt o h g e) (hk : K false) : nlW P 31 false e fun v => asBo v K := by
  obtain ⟨ms, hm⟩ := iface31
  obtain ⟨_, _, T, v, rfl⟩ := H
  unfold nlW; rw [hm]; exact hk
/-- bullalaw17.alive -/
theorem alive_ok {o : Own} {h : Hp} {τ : Nat} {e : Errs} {K : Value → Hp → Prop} (he : ErrsAt o h e) (hτ : 2 ≤ τ) (H : ∀ o' h', Step (Of τ) o h o' h' → K (.bool true) h') : Spec P 7 #[] h K := by
  refine S7 ?_
  unfold V7
  refine new_ok (τ := τ) he (fun hb => by omega) (fun _ o1 h1 d hd hd1 st1 => ?_)
  have he1 := he.step st1 (by simp)
  refine asTu_i (unc_i (asPt_i (unc_i (nilL_i ?_))))
  refine nl_nil (bIf_f rfl ?_)
  refine bIf_f rfl ?_
  refine lit_ok o1 (1, 0) bytes24 (l := [97, 98]) rfl rfl ?_
  intro o2 h2 r2 hr2 f2 st2
  refine write_ok (l := [97, 98]) (hd1.step st2 (by simp) (by simp)) (he1.step st2 (by simp)) hτ (by simp [newD]) f2.read (by simp) ?_
  intro o3 h3 hd3 st3
  have he3 := (he1.step st2 (by simp)).of st3 hτ
  refine nl_nil (bIf_f rfl ?_)
  refine sync_ok hd3 he3 hτ ?_
  intro o4 h4 hd4 st4
  have he4 := he3.of st4 hτ
  refine nl_nil (bIf_f rfl ?_)
  refine lit_ok o4 (1, 0) bytes24 (l := [99, 100]) rfl rfl ?_
  intro o5 h5 r5 hr5 f5 st5
  refine write_ok (l := [99, 100]) (hd4.step st5 (by simp) (by simp)) (he4.step st5 (by simp)) hτ (by decide) f5.read (by simp) ?_
  intro o6 h6 hd6 st6
  have he6 := (he4.step st5 (by simp)).of st6 hτ
  refine nl_nil ?_
  unfold V7_s14
  refine bIf_f rfl ?_
  unfold V7_s7
  refine crash_ok hd6 hτ ?_
  intro o7 h7 hd7 st7
  refine read_ok (t := (1, 0)) hd7 (he6.of st7 hτ) (fun hn => absurd (by decide) hn) (fun _ hg => absurd hg (by decide)) ?_
  intro _ _ o8 h8 a c f8 st8
  refine asTu_i (unc_i (asSl_i (unc_i (nilL_i ?_))))
  refine nle_nil (bIf_t rfl ?_)
  refine str_ok bytes24 f8.read ?_
  have e0 : (crashD (writeD (syncD (writeD (newD 9) 2 0 [97, 98]).1).1 2 2 [99, 100]).1 0 0 1).seen (Int.toNat 2) = [97, 98, 99] := by decide
  rw [e0]
  change K (.bool (strEq (str [97, 98, 99]) (str [97, 98, 99]))) _
  rw [strEq_str, beq_self_eq_true]
  exact H _ _ ((((((((st1.no.trans st2.no).trans st3).trans st4).trans st5.no).trans st6).trans st7).trans st8.no))

/-! ### Acts, as the law is given them -/
structure Act where
  kind : Int
  area : Int
  pos : Int
  torn : Int
  scat : Int
  bytes : Bytes
def ActAt (o : Own) (h : Hp) (x : Act) (cl : List Value) : Prop :=
  ∃ a n c, cl = [.int .i64 x.kind, .int .i64 x.area, .int .i64 x.pos, .int .i64 x.torn, .int .u64 x.scat, .slice a n c] ∧ Rc o h (0, 0) 1 a n c (x.bytes.map bc)
theorem ActAt.step {S : Tag → Prop} {o o' : Own} {h h' : Hp} {x : Act} {cl : List Value} (H : ActAt o h x cl) (s : Step S o h o' h') (h0 : ¬ S (0, 0)) : ActAt o' h' x cl := by
  obtain ⟨a, n, c, e, h1⟩ := H
  exact ⟨a, n, c, e, h1.step s h0⟩
def ActsAt (o : Own) (h : Hp) (a : Option Addr) (n c : Nat) (l : List Act) : Prop := ∃ xs, Rc o h (0, 0) 6 a n c xs ∧ RowsOf 6 (ActAt o h) l xs
theorem ActsAt.step {S : Tag → Prop} {o o' : Own} {h h' : Hp} {a : Option Addr} {n c : Nat} {l : List Act} (H : ActsAt o h a n c l) (s : Step S o h o' h') (h0 : ¬ S (0, 0)) : ActsAt o' h' a n c l := by
  obtain ⟨xs, h1, h2⟩ := H
  exact ⟨xs, h1.step s h0, h2.mono fun x c _ hx => hx.step s h0⟩
theorem ActsAt.count {o : Own} {h : Hp} {a : Option Addr} {n c : Nat} {l : List Act} (H : ActsAt o h a n c l) : n = l.length := by
  obtain ⟨xs, h1, h2⟩ := H
  exact h2.count h1 (by omega)
theorem elem22 : Elem P 22 26 6 64 := elem_of (by kernel_rfl)
/-- One act, read. -/
theorem ActsAt.row {o : Own} {h : Hp} {a : Option Addr} {n c i : Nat} {l : List Act} {x : Act} (H : ActsAt o h a n c l) (hi : l[i]? = some x) :
    ∃ b off cs E fr ba bn bcap, (∀ Q : Addr → Prop, Q ⟨b, off, none⟩ → ixA P 22 (.slice a n c) (.int .i64 (i : Int)) h Q) ∧ h b = some (.cells cs E fr) ∧ cs[off]? = some (.int .i64 x.kind) ∧ cs[off + 1]? = some (.int .i64 x.area) ∧ cs[off + 2]? = some (.int .i64 x.pos) ∧
      cs[off + 3]? = some (.int .i64 x.torn) ∧ cs[off + 4]? = some (.int .u64 x.scat) ∧ cs[off + 5]? = some (.slice ba bn bcap) ∧ Rc o h (0, 0) 1 ba bn bcap (x.bytes.map bc) := by
  have hn := H.count
  obtain ⟨xs, h1, h2⟩ := H
  have hlt := (List.getElem?_eq_some_iff.1 hi).1
  obtain ⟨b, off, cs, E, fr, cl, e1, e2, e3, e4, ⟨ba, bn, bcap, rfl, e6⟩, e5⟩ := h1.row h2 hi (by omega)
  refine ⟨b, off + i * 6, cs, E, fr, ba, bn, bcap, ?_, e3, e5 0 _ rfl, e5 1 _ rfl, e5 2 _ rfl, e5 3 _ rfl, e5 4 _ rfl, e5 5 _ rfl, e6⟩
  intro Q hQ
  rw [e1]
  exact ix_slice elem22 (by omega) (by omega) (by rw [Int.toNat_natCast]; exact hQ)

def LgI (o : Own) (h : Hp) (a : Option Addr) (c : Nat) (l : List Act) (ns : List Nat) (y8 : Option Addr) (y8n y8c : Nat) (y9 y10 : Int) (hh : Hp) : Prop :=
  ∃ (i : Nat) (o' : Own), ns = [l.length - i] ∧ i ≤ l.length ∧ y8 = a ∧ y8n = l.length ∧ y8c = c ∧ y9 = l.length ∧ y10 = i ∧ Step (fun _ => False) o h o' hh ∧ ∀ j x, j < i → l[j]? = some x → x.bytes.length ≤ 200
/-- bullalaw17.long -/
theorem long_ok {o : Own} {h : Hp} {a : Option Addr} {n c : Nat} {l : List Act} {K : Value → Hp → Prop} (hl : ActsAt o h a n c l)
    (H : ∀ o' h' b, (b = false → l.length ≤ 60 ∧ ∀ x ∈ l, x.bytes.length ≤ 200) → Step (fun _ => False) o h o' h' → K (.bool b) h') : Spec P 8 #[.slice a n c] h K := by
  obtain rfl := hl.count
  by_cases h60 : l.length > 60
  · refine S8 (fun _ _ _ _ _ _ _ => False) (fun _ _ _ _ _ _ _ hf => hf.elim) ?_
    unfold V8
    refine bIf_t (by simp; omega) (H o h true (by simp) (.refl _ _ _))
  · refine S8 (LgI o h a c l) ?_ ?_
    · rintro n y8 y8n y8c y9 y10 hh ⟨i, o', hns, hi, rfl, rfl, rfl, rfl, rfl, st1, hshort⟩
      obtain rfl : n = l.length - i := by simpa using hns
      unfold V8_58
      refine bIf_dec (fun hlt => ?_) (fun hge => ?_)
      · obtain ⟨x, hx⟩ : ∃ x, l[i]? = some x := ⟨l[i]'(by omega), by simp⟩
        obtain ⟨b, off, cs, E, fr, ba, bn, bcap, g0, g1, g2, g3, g4, g5, g6, g7, g8⟩ := (hl.step st1 (by simp)).row hx
        refine g0 _ ?_
        refine ld_i g1 g2 ?_
        refine ld_i g1 g3 ?_
        refine ld_i g1 g4 ?_
        refine ld_i g1 g5 ?_
        refine ld_i g1 g6 ?_
        refine ld_l g1 g7 ?_
        refine nw_to ?_
        intro r h2 hr hh2
        have b2 : h2 r = some (.cells #[.int .i64 0, .int .i64 0, .int .i64 0, .int .i64 0, .int .u64 0, .slice none 0 0] 26) := by rw [hh2]; exact Hp.set_same _ _ _
        refine st_v b2 (Loose.zero _) rfl (by simp) ?_
        refine st_v (Hp.set_same _ _ _) (Loose.zero _) rfl (by simp) ?_
        refine st_v (Hp.set_same _ _ _) (Loose.zero _) rfl (by simp) ?_
        refine st_v (Hp.set_same _ _ _) (Loose.zero _) rfl (by simp) ?_
        refine st_v (Hp.set_same _ _ _) (Loose.zero _) rfl (by simp) ?_
        refine st_v (Hp.set_same _ _ _) (Loose.zero _) rfl (by simp) ?_
        rw [Hp.set_set, Hp.set_set, Hp.set_set, Hp.set_set, Hp.set_set, hh2, Hp.set_set]
        have st2 : Step (fun _ => False) o h (o'.set r (1, 0)) _ := st1.trans (Step.new (.cells #[.int .i64 x.kind, .int .i64 x.area, .int .i64 x.pos, .int .i64 x.torn, .int .u64 x.scat, .slice ba bn bcap] 26) (1, 0) hr)
        refine ld_l (Hp.set_same _ _ _) rfl ?_
        have hbn := len_rc g8
        refine bIf_dec (fun hlong => ?_) (fun hlong => ?_)
        · exact H _ _ true (by simp) st2
        · refine ⟨l.length - (i + 1), by omega, i + 1, _, rfl, by omega, rfl, rfl, rfl, rfl, ?_, st2, ?_⟩
          · rw [wrap_i64] <;> omega
          · intro j y hj hy
            by_cases hji : j < i
            · exact hshort j y hji hy
            · obtain rfl : j = i := by omega
              rw [hx] at hy
              cases hy
              omega
      · refine H _ _ false (fun _ => ⟨by omega, fun x hx => ?_⟩) st1
        obtain ⟨j, hj, hxj⟩ := List.getElem_of_mem hx
        exact hshort j x (by omega) (by simp [hj, hxj])
    · unfold V8
      refine bIf_f (by simp; omega) ?_
      exact ⟨l.length, 0, o, rfl, by omega, rfl, rfl, rfl, rfl, rfl, .refl _ _ _, fun j x hj => by omega⟩
end Go.Proofs.YtcolhmddhaabnaaDoor
