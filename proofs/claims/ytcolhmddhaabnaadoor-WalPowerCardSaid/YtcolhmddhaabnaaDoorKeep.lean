import Derived.Test.YtcolhmddhaabnaaDoorDisk
import Derived.Test.YtcolhmddhaabnaaDoorVk
set_option linter.unusedVariables false
set_option maxRecDepth 100000
namespace Go.Proofs.YtcolhmddhaabnaaDoor
open Go.H

theorem bytes24 : BytesT P 24 9 5 := bytes_of (by kernel_rfl)
theorem ErrsAt.of {τ : Nat} {o o' : Own} {h h' : Hp} {e : Errs} (he : ErrsAt o h e) (st : Step (Of τ) o h o' h') (hτ : 2 ≤ τ) : ErrsAt o' h' e := he.step st (by unfold Of; simp; omega)
/-- err == nil -/
theorem nle_nil {K : Bool → Prop} (H : K true) : nlW P 31 false .nilIface fun v => asBo v K := by
  obtain ⟨ms, hm⟩ := iface31
  unfold nlW; rw [hm]; exact H
theorem nle_err {o : Own} {h : Hp} {g : Nat} {e : Value} {K : Bool → Prop} (H : ErrAt o h g e) (hk : K false) : nlW P 31 false e fun v => asBo v K := by
  obtain ⟨ms, hm⟩ := iface31
  obtain ⟨_, _, T, v, rfl⟩ := H
  unfold nlW; rw [hm]; exact hk
/-- bullalaw17.alive -/
theorem alive_ok {o : Own} {h : Hp} {τ : Nat} {e : Errs} {K : Value → Hp → Prop} (he : ErrsAt o h e) (hτ : 2 ≤ τ) (H : ∀ o' h', Step (Of τ) o h o' h' → K (.bool true) h') : Spec P 7 #[] h K := by
  refine S7 ?_
  unfold V7
  refine new_ok (τ := τ) he (fun hb => by omega) (fun _ o1 h1 d hd hd1 st1 => ?_)
  have he1 := he.step st1 (by simp)
  refine asTu_i (unc_i (asPt_i (unc_i (nilL_i ?_))))
  refine nl_nil (bIf_f rfl ?_)
  refine bIf_f rfl ?_
  refine lit_ok o1 (1, 0) bytes24 (l := [97, 98]) rfl rfl ?_
  intro o2 h2 r2 hr2 f2 st2
  refine write_ok (l := [97, 98]) (hd1.step st2 (by simp) (by simp)) (he1.step st2 (by simp)) hτ (by simp [newD]) f2.read (by simp) ?_
  intro o3 h3 hd3 st3
  have he3 := (he1.step st2 (by simp)).of st3 hτ
  refine nl_nil (bIf_f rfl ?_)
  refine sync_ok hd3 he3 hτ ?_
  intro o4 h4 hd4 st4
  have he4 := he3.of st4 hτ
  refine nl_nil (bIf_f rfl ?_)
  refine lit_ok o4 (1, 0) bytes24 (l := [99, 100]) rfl rfl ?_
  intro o5 h5 r5 hr5 f5 st5
  refine write_ok (l := [99, 100]) (hd4.step st5 (by simp) (by simp)) (he4.step st5 (by simp)) hτ (by decide) f5.read (by simp) ?_
  intro o6 h6 hd6 st6
  have he6 := (he4.step st5 (by simp)).of st6 hτ
  refine nl_nil ?_
  unfold V7_s14
  refine bIf_f rfl ?_
  unfold V7_s7
  refine crash_ok hd6 hτ ?_
  intro o7 h7 hd7 st7
  refine read_ok (t := (1, 0)) hd7 (he6.of st7 hτ) (fun hn => absurd (by decide) hn) (fun _ hg => absurd hg (by decide)) ?_
  intro _ _ o8 h8 a c f8 st8
  refine asTu_i (unc_i (asSl_i (unc_i (nilL_i ?_))))
  refine nle_nil (bIf_t rfl ?_)
  refine str_ok bytes24 f8.read ?_
  have e0 : (crashD (writeD (syncD (writeD (newD 9) 2 0 [97, 98]).1).1 2 2 [99, 100]).1 0 0 1).seen (Int.toNat 2) = [97, 98, 99] := by decide
  rw [e0]
  change K (.bool (strEq (str [97, 98, 99]) (str [97, 98, 99]))) _
  rw [strEq_str, beq_self_eq_true]
  exact H _ _ ((((((((st1.no.trans st2.no).trans st3).trans st4).trans st5.no).trans st6).trans st7).trans st8.no))

/-! ### Acts, as the law is given them -/
structure Act where
  kind : Int
  area : Int
  pos : Int
  torn : Int
  scat : Int
  bytes : Bytes
def ActAt (o : Own) (h : Hp) (x : Act) (cl : List Value) : Prop :=
  ∃ a n c, cl = [.int .i64 x.kind, .int .i64 x.area, .int .i64 x.pos, .int .i64 x.torn, .int .u64 x.scat, .slice a n c] ∧ Rc o h (0, 0) 1 a n c (x.bytes.map bc)
theorem ActAt.step {S : Tag → Prop} {o o' : Own} {h h' : Hp} {x : Act} {cl : List Value} (H : ActAt o h x cl) (s : Step S o h o' h') (h0 : ¬ S (0, 0)) : ActAt o' h' x cl := by
  obtain ⟨a, n, c, e, h1⟩ := H
  exact ⟨a, n, c, e, h1.step s h0⟩
def ActsAt (o : Own) (h : Hp) (a : Option Addr) (n c : Nat) (l : List Act) : Prop := ∃ xs, Rc o h (0, 0) 6 a n c xs ∧ RowsOf 6 (ActAt o h) l xs
theorem ActsAt.step {S : Tag → Prop} {o o' : Own} {h h' : Hp} {a : Option Addr} {n c : Nat} {l : List Act} (H : ActsAt o h a n c l) (s : Step S o h o' h') (h0 : ¬ S (0, 0)) : ActsAt o' h' a n c l := by
  obtain ⟨xs, h1, h2⟩ := H
  exact ⟨xs, h1.step s h0, h2.mono fun x c _ hx => hx.step s h0⟩
theorem ActsAt.count {o : Own} {h : Hp} {a : Option Addr} {n c : Nat} {l : List Act} (H : ActsAt o h a n c l) : n = l.length := by
  obtain ⟨xs, h1, h2⟩ := H
  exact h2.count h1 (by omega)
theorem elem22 : Elem P 22 26 6 64 := elem_of (by kernel_rfl)
/-- One act, read. -/
theorem ActsAt.row {o : Own} {h : Hp} {a : Option Addr} {n c i : Nat} {l : List Act} {x : Act} (H : ActsAt o h a n c l) (hi : l[i]? = some x) :
    ∃ b off cs E fr ba bn bcap, (∀ Q : Addr → Prop, Q ⟨b, off, none⟩ → ixA P 22 (.slice a n c) (.int .i64 (i : Int)) h Q) ∧ h b = some (.cells cs E fr) ∧ cs[off]? = some (.int .i64 x.kind) ∧ cs[off + 1]? = some (.int .i64 x.area) ∧ cs[off + 2]? = some (.int .i64 x.pos) ∧
      cs[off + 3]? = some (.int .i64 x.torn) ∧ cs[off + 4]? = some (.int .u64 x.scat) ∧ cs[off + 5]? = some (.slice ba bn bcap) ∧ Rc o h (0, 0) 1 ba bn bcap (x.bytes.map bc) := by
  have hn := H.count
  obtain ⟨xs, h1, h2⟩ := H
  have hlt := (List.getElem?_eq_some_iff.1 hi).1
  obtain ⟨b, off, cs, E, fr, cl, e1, e2, e3, e4, ⟨ba, bn, bcap, rfl, e6⟩, e5⟩ := h1.row h2 hi (by omega)
  refine ⟨b, off + i * 6, cs, E, fr, ba, bn, bcap, ?_, e3, e5 0 _ rfl, e5 1 _ rfl, e5 2 _ rfl, e5 3 _ rfl, e5 4 _ rfl, e5 5 _ rfl, e6⟩
  intro Q hQ
  rw [e1]
  exact ix_slice elem22 (by omega) (by omega) (by rw [Int.toNat_natCast]; exact hQ)

def LgI (o : Own) (h : Hp) (a : Option Addr) (c : Nat) (l : List Act) (ns : List Nat) (y8 : Option Addr) (y8n y8c : Nat) (y9 y10 : Int) (hh : Hp) : Prop :=
  ∃ (i : Nat) (o' : Own), ns = [l.length - i] ∧ i ≤ l.length ∧ y8 = a ∧ y8n = l.length ∧ y8c = c ∧ y9 = l.length ∧ y10 = i ∧ Step (fun _ => False) o h o' hh ∧ ∀ j x, j < i → l[j]? = some x → x.bytes.length ≤ 200
/-- bullalaw17.long -/
theorem long_ok {o : Own} {h : Hp} {a : Option Addr} {n c : Nat} {l : List Act} {K : Value → Hp → Prop} (hl : ActsAt o h a n c l)
    (H : ∀ o' h' b, (b = false → l.length ≤ 60 ∧ ∀ x ∈ l, x.bytes.length ≤ 200) → Step (fun _ => False) o h o' h' → K (.bool b) h') : Spec P 8 #[.slice a n c] h K := by
  obtain rfl := hl.count
  by_cases h60 : l.length > 60
  · refine S8 (fun _ _ _ _ _ _ _ => False) (fun _ _ _ _ _ _ _ hf => hf.elim) ?_
    unfold V8
    refine bIf_t (by simp; omega) (H o h true (by simp) (.refl _ _ _))
  · refine S8 (LgI o h a c l) ?_ ?_
    · rintro n y8 y8n y8c y9 y10 hh ⟨i, o', hns, hi, rfl, rfl, rfl, rfl, rfl, st1, hshort⟩
      obtain rfl : n = l.length - i := by simpa using hns
      unfold V8_58
      refine bIf_dec (fun hlt => ?_) (fun hge => ?_)
      · obtain ⟨x, hx⟩ : ∃ x, l[i]? = some x := ⟨l[i]'(by omega), by simp⟩
        obtain ⟨b, off, cs, E, fr, ba, bn, bcap, g0, g1, g2, g3, g4, g5, g6, g7, g8⟩ := (hl.step st1 (by simp)).row hx
        refine g0 _ ?_
        refine ld_i g1 g2 ?_
        refine ld_i g1 g3 ?_
        refine ld_i g1 g4 ?_
        refine ld_i g1 g5 ?_
        refine ld_i g1 g6 ?_
        refine ld_l g1 g7 ?_
        refine nw_to ?_
        intro r h2 hr hh2
        have b2 : h2 r = some (.cells #[.int .i64 0, .int .i64 0, .int .i64 0, .int .i64 0, .int .u64 0, .slice none 0 0] 26) := by rw [hh2]; exact Hp.set_same _ _ _
        refine st_v b2 (Loose.zero _) rfl (by simp) ?_
        refine st_v (Hp.set_same _ _ _) (Loose.zero _) rfl (by simp) ?_
        refine st_v (Hp.set_same _ _ _) (Loose.zero _) rfl (by simp) ?_
        refine st_v (Hp.set_same _ _ _) (Loose.zero _) rfl (by simp) ?_
        refine st_v (Hp.set_same _ _ _) (Loose.zero _) rfl (by simp) ?_
        refine st_v (Hp.set_same _ _ _) (Loose.zero _) rfl (by simp) ?_
        rw [Hp.set_set, Hp.set_set, Hp.set_set, Hp.set_set, Hp.set_set, hh2, Hp.set_set]
        have st2 : Step (fun _ => False) o h (o'.set r (1, 0)) _ := st1.trans (Step.new (.cells #[.int .i64 x.kind, .int .i64 x.area, .int .i64 x.pos, .int .i64 x.torn, .int .u64 x.scat, .slice ba bn bcap] 26) (1, 0) hr)
        refine ld_l (Hp.set_same _ _ _) rfl ?_
        have hbn := len_rc g8
        refine bIf_dec (fun hlong => ?_) (fun hlong => ?_)
        · exact H _ _ true (by simp) st2
        · refine ⟨l.length - (i + 1), by omega, i + 1, _, rfl, by omega, rfl, rfl, rfl, rfl, ?_, st2, ?_⟩
          · rw [wrap_i64] <;> omega
          · intro j y hj hy
            by_cases hji : j < i
            · exact hshort j y hji hy
            · obtain rfl : j = i := by omega
              rw [hx] at hy
              cases hy
              omega
      · refine H _ _ false (fun _ => ⟨by omega, fun x hx => ?_⟩) st1
        obtain ⟨j, hj, hxj⟩ := List.getElem_of_mem hx
        exact hshort j x (by omega) (by simp [hj, hxj])
    · unfold V8
      refine bIf_f (by simp; omega) ?_
      exact ⟨l.length, 0, o, rfl, by omega, rfl, rfl, rfl, rfl, rfl, .refl _ _ _, fun j x hj => by omega⟩
end Go.Proofs.YtcolhmddhaabnaaDoor
set_option linter.unusedVariables false
set_option maxRecDepth 100000
namespace Go.Proofs.YtcolhmddhaabnaaDoor
open Go.H

/-! ### The plain law -/
def Calm (D : DS) : Prop := D.armed = false ∧ D.gone = false
theorem Calm.go {D : DS} (h : Calm D) : goneD D = false := by unfold goneD; rw [h.1, h.2]; rfl
theorem Calm.unit {D : DS} (h : Calm D) : unitD D = D := by unfold unitD; rw [h.go, h.1]; rfl
theorem Calm.wait {D : DS} (h : Calm D) (c : Ch) : waitD D c = { D with waits := D.waits ++ [c], seen := doI D.seen c } := by
  unfold waitD; rw [h.go, h.unit]; rfl
theorem Calm.sync {D : DS} (h : Calm D) : syncD D = ({ D with sure := D.seen, waits := [] }, 0) := by
  unfold syncD; rw [h.go, h.unit]; rfl
theorem Calm.write {D : DS} (h : Calm D) (area pos : Int) (l : Bytes) : Calm (writeD D area pos l).1 ∧ (writeD D area pos l).1.waits.length ≤ D.waits.length + 1 := by
  unfold writeD
  (repeat' split) <;> first | exact ⟨h, by simp⟩ | (rw [h.wait]; exact ⟨h, by simp⟩)
theorem Calm.cut {D : DS} (h : Calm D) (area n : Int) : Calm (cutD D area n).1 ∧ (cutD D area n).1.waits.length ≤ D.waits.length + 1 := by
  unfold cutD
  (repeat' split) <;> first | exact ⟨h, by simp⟩ | (rw [h.wait]; exact ⟨h, by simp⟩)
theorem splice_end (b x : Bytes) : splice b b.length x = b ++ x := by
  unfold splice
  have e : b.length + x.length - b.length = x.length := by omega
  rw [e, List.take_left, List.drop_eq_nil_of_le (by simp)]
  simp
/-- What one write behind the end leaves of it, behind a crash. -/
theorem crash_end (kept : Nat) (sc torn : Int) (S : Nat → Bytes) (l : Bytes) :
    ∃ k, k ≤ l.length ∧ crashL kept sc torn 0 [⟨2, (S 2).length, l, false⟩] S 2 = S 2 ++ l.take k := by
  have on : ∀ x : Bytes, doI S ⟨2, (S 2).length, x, false⟩ 2 = S 2 ++ x := by
    intro x
    unfold doI Ch.on
    simp only [if_true]
    exact splice_end _ _
  unfold crashL crashL crash1
  split
  · exact ⟨l.length, Nat.le_refl _, by rw [List.take_length]; exact on l⟩
  · split
    · refine ⟨min torn.toNat l.length, by omega, ?_⟩
      rw [← List.take_eq_take_min]
      exact on (l.take torn.toNat)
    · exact ⟨0, by omega, by simp⟩

/-! ### The walk -/
theorem arr37 : ArrT P 37 9 3 1 := arr_of (by kernel_rfl)
theorem build37 (h : Hp) : rd P (Instr.build 37 #[]) h = some (.agg #[.string ByteArray.empty, .string ByteArray.empty, .string ByteArray.empty]) := by kernel_rfl
structure Ks where
  kept : Int
  sc : Int
  torn : Int
def K1 (o0 : Own) (h0 : Hp) (e : Errs) (A : Ks) (l : List Act) (ns : List Nat) (y5 y6 y7 : Int) (y8 y37 : Option Addr) (y37n y37c : Nat) (y38 y39 : Int) (hh : Hp) : Prop :=
  ∃ (i : Nat) (o : Own) (d : Nat) (D : DS), ns = [l.length - i] ∧ i ≤ l.length ∧ y5 = A.kept ∧ y6 = A.sc ∧ y7 = A.torn ∧ y8 = some ⟨d, 0, none⟩ ∧ y38 = l.length ∧ y39 = i ∧
    Step Mut o0 h0 o hh ∧ DiskAt o hh 3 d D ∧ Calm D ∧ D.waits.length ≤ i ∧ ErrsAt o hh e ∧ ActsAt o hh y37 y37n y37c l ∧ l.length ≤ 60 ∧ ∀ x ∈ l, x.bytes.length ≤ 200
/-- The texts that stand. -/
def TextsAt (o : Own) (h : Hp) (r : Nat) (S : Nat → Bytes) (i : Nat) : Prop := ∃ cs E, h r = some (.cells cs E (0, 0)) ∧ o r = (1, 0) ∧ cs.size = 3 ∧ ∀ j, j < i → cs[j]? = some (.string (str (S j)))
def K2 (o0 : Own) (h0 : Hp) (e : Errs) (A : Ks) (ns : List Nat) (y5 y6 y7 : Int) (y8 : Option Addr) (y12 : Addr) (y65 : Int) (hh : Hp) : Prop :=
  ∃ (i : Nat) (o : Own) (d r : Nat) (D : DS), ns = [3 - i] ∧ i ≤ 3 ∧ y5 = A.kept ∧ y6 = A.sc ∧ y7 = A.torn ∧ y8 = some ⟨d, 0, none⟩ ∧ y12 = ⟨r, 0, none⟩ ∧ y65 = i ∧
    Step Mut o0 h0 o hh ∧ DiskAt o hh 3 d D ∧ Calm D ∧ D.waits = [] ∧ D.sure = D.seen ∧ ErrsAt o hh e ∧ TextsAt o hh r D.seen i
def K3 (o0 : Own) (h0 : Hp) (e : Errs) (A : Ks) (ns : List Nat) (y5 y6 y7 : Int) (y8 : Option Addr) (y12 : Addr) (y86 : Int) (hh : Hp) : Prop :=
  ∃ (i : Nat) (o : Own) (d r : Nat) (D : DS), ns = [3 - i] ∧ i ≤ 3 ∧ y5 = A.kept ∧ y6 = A.sc ∧ y7 = A.torn ∧ y8 = some ⟨d, 0, none⟩ ∧ y12 = ⟨r, 0, none⟩ ∧ y86 = i ∧
    Step Mut o0 h0 o hh ∧ DiskAt o hh 3 d D ∧ Calm D ∧ D.waits = [] ∧ D.sure = D.seen ∧ ErrsAt o hh e ∧ TextsAt o hh r D.seen 3
theorem TextsAt.step {S : Tag → Prop} {o o' : Own} {h h' : Hp} {r i : Nat} {T : Nat → Bytes} (H : TextsAt o h r T i) (s : Step S o h o' h') (h0 : ¬ S (1, 0)) : TextsAt o' h' r T i := by
  obtain ⟨cs, E, h1, h2, h3, h4⟩ := H
  obtain ⟨f1, f2⟩ := s.at h1 (by rw [h2]; exact h0)
  exact ⟨cs, E, f1, f2.trans h2, h3, h4⟩
/-- "appended" -/
def app8 : Bytes := [97, 112, 112, 101, 110, 100, 101, 100]
/-- bullalaw17.DiskKeeps -/
theorem keeps_ok {o : Own} {h : Hp} {e : Errs} {a : Option Addr} {n c : Nat} {l : List Act} {x0 x1 kept torn sc : Int} {ba : Option Addr} {bn bcap : Nat} {K : Value → Hp → Prop} (he : ErrsAt o h e) (hl : ActsAt o h a n c l)
    (H : ∀ o' h', Step Mut o h o' h' → K (.bool true) h') : Spec P 3 #[.slice a n c, .agg #[.int .i64 x0, .int .i64 x1, .int .i64 kept, .int .i64 torn, .int .u64 sc, .slice ba bn bcap]] h K := by
  refine S3 (K1 o h e ⟨kept, sc, torn⟩ l) (K2 o h e ⟨kept, sc, torn⟩) (K3 o h e ⟨kept, sc, torn⟩) ?_ ?_ ?_ ?_
  · rintro n y5 y6 y7 y8 y37 y37n y37c y38 y39 hh ⟨i, o1, d, D, hns, hi, rfl, rfl, rfl, rfl, rfl, rfl, s0, hd, hc, hw, he1, hl1, h60, h200⟩
    obtain rfl : n = l.length - i := by simpa using hns
    unfold V3_1018
    refine bIf_dec (fun hlt => ?_) (fun hge => ?_)
    · obtain ⟨x, hx⟩ : ∃ x, l[i]? = some x := ⟨l[i]'(by omega), by simp⟩
      obtain ⟨b, off, cs, E, fr, xa, xn, xc, g0, g1, g2, g3, g4, g5, g6, g7, g8⟩ := hl1.row hx
      refine g0 _ ?_
      refine ld_i g1 g2 ?_
      refine ld_i g1 g3 ?_
      refine ld_i g1 g4 ?_
      refine ld_i g1 g5 ?_
      refine ld_i g1 g6 ?_
      refine ld_l g1 g7 ?_
      refine nw_to ?_
      intro r h2 hr hh2
      have b2 : h2 r = some (.cells #[.int .i64 0, .int .i64 0, .int .i64 0, .int .i64 0, .int .u64 0, .slice none 0 0] 26) := by rw [hh2]; exact Hp.set_same _ _ _
      refine st_v b2 (Loose.zero _) rfl (by simp) ?_
      refine st_v (Hp.set_same _ _ _) (Loose.zero _) rfl (by simp) ?_
      refine st_v (Hp.set_same _ _ _) (Loose.zero _) rfl (by simp) ?_
      refine st_v (Hp.set_same _ _ _) (Loose.zero _) rfl (by simp) ?_
      refine st_v (Hp.set_same _ _ _) (Loose.zero _) rfl (by simp) ?_
      refine st_to (Hp.set_same _ _ _) (Loose.zero _) rfl (by simp) (cs' := #[.int .i64 x.kind, .int .i64 x.area, .int .i64 x.pos, .int .i64 x.torn, .int .u64 x.scat, .slice xa xn xc]) rfl ?_
      intro h3 hh3
      rw [Hp.set_set, Hp.set_set, Hp.set_set, Hp.set_set, Hp.set_set, hh2, Hp.set_set] at hh3
      have st3 : Step (fun _ => False) o1 hh (o1.set r (1, 0)) h3 := by rw [hh3]; exact Step.new _ _ hr
      have b3 : h3 r = some (.cells #[.int .i64 x.kind, .int .i64 x.area, .int .i64 x.pos, .int .i64 x.torn, .int .u64 x.scat, .slice xa xn xc] 26) := by rw [hh3]; exact Hp.set_same _ _ _
      have hd3 := hd.step st3 (by simp) (by simp)
      have he3 := he1.step st3 (by simp)
      have hl3 := hl1.step st3 (by simp)
      have next : ∀ o6 h6 (D' : DS), DiskAt o6 h6 3 d D' → Calm D' → D'.waits.length ≤ D.waits.length + 1 → Step (Of 3) (o1.set r (1, 0)) h3 o6 h6 →
          ∃ m, m < l.length - i ∧ K1 o h e ⟨y5, y6, y7⟩ l [m] y5 y6 y7 (some ⟨d, 0, none⟩) y37 y37n y37c (l.length : Int) (IntKind.i64.wrap ((i : Int) + 1)) h6 := by
        intro o6 h6 D' hd6 hc6 hw6 st6
        refine ⟨l.length - (i + 1), by omega, i + 1, o6, d, D', rfl, by omega, rfl, rfl, rfl, rfl, rfl, ?_, (s0.trans st3.no).trans (st6.ofMut (by omega)), hd6, hc6, by omega, he3.of st6 (by omega), hl3.step st6 (by simp [Of]), h60, h200⟩
        rw [wrap_i64] <;> omega
      refine ld_i b3 rfl ?_
      refine bIf_ite (fun h1 => ?_) (fun h1 => ?_)
      · refine ld_i b3 rfl ?_
        refine ld_i b3 rfl ?_
        refine cut_ok hd3 he3 (by omega) (by omega) ?_
        intro o6 h6 hd6 st6
        exact next o6 h6 _ hd6 (hc.cut _ _).1 (hc.cut _ _).2 st6
      · refine ld_i b3 rfl ?_
        refine ld_i b3 rfl ?_
        refine ld_l b3 rfl ?_
        have hx200 := h200 x (List.mem_of_getElem? hx)
        refine write_ok hd3 he3 (by omega) (by omega) (g8.step st3 (by simp)) (by omega) ?_
        intro o6 h6 hd6 st6
        exact next o6 h6 _ hd6 (hc.write _ _ _).1 (hc.write _ _ _).2 st6
    · refine sync_ok hd he1 (by omega) ?_
      rw [hc.sync]
      intro o2 h2 hd2 st2
      have he2 := he1.of st2 (by omega)
      refine nl_nil (bIf_f rfl ?_)
      refine oRd_i (build37 _) ?_
      refine asAg_i (unc_i (asStr_i (unc_i (asStr_i (unc_i (asStr_i (nilL_i ?_)))))))
      refine nw_to ?_
      intro r h3 hr hh3
      have b3 : h3 r = some (.cells #[.string ByteArray.empty, .string ByteArray.empty, .string ByteArray.empty] 37) := by rw [hh3]; exact Hp.set_same _ _ _
      refine st_v b3 (Loose.zero _) rfl (by simp) ?_
      refine st_v (Hp.set_same _ _ _) (Loose.zero _) rfl (by simp) ?_
      refine st_to (Hp.set_same _ _ _) (Loose.zero _) rfl (by simp) (cs' := #[.string ByteArray.empty, .string ByteArray.empty, .string ByteArray.empty]) rfl ?_
      intro h4 hh4
      rw [Hp.set_set, Hp.set_set, hh3, Hp.set_set] at hh4
      have st4 : Step (fun _ => False) o2 h2 (o2.set r (1, 0)) h4 := by rw [hh4]; exact Step.new _ _ hr
      have b4 : h4 r = some (.cells #[.string ByteArray.empty, .string ByteArray.empty, .string ByteArray.empty] 37) := by rw [hh4]; exact Hp.set_same _ _ _
      exact ⟨3, 0, o2.set r (1, 0), d, r, _, rfl, by omega, rfl, rfl, rfl, rfl, rfl, rfl, (s0.trans (st2.ofMut (by omega))).trans st4.no, hd2.step st4 (by simp) (by simp), hc, rfl, rfl, he2.step st4 (by simp), _, _, b4, Own.set_same _ _ _, rfl, fun j hj => by omega⟩
  · rintro n y5 y6 y7 y8 y12 y65 hh ⟨i, o1, d, r, D, hns, hi, rfl, rfl, rfl, rfl, rfl, rfl, s0, hd, hc, hw, hs, he1, ht⟩
    obtain rfl : n = 3 - i := by simpa using hns
    unfold V3_8186
    refine bIf_dec (fun hlt => ?_) (fun hge => ?_)
    · refine read_ok (t := (1, 0)) hd he1 (fun hn => absurd ⟨by omega, by omega⟩ hn) (fun _ hg => by rw [hc.2] at hg; cases hg) ?_
      intro _ _ o2 h2 a2 c2 f2 st2
      refine asTu_i (unc_i (asSl_i (unc_i (nilL_i ?_))))
      refine nl_nil (bIf_f rfl ?_)
      refine str_ok bytes24 f2.read ?_
      obtain ⟨cs, E, t1, t2, t3, t4⟩ := ht.step st2 (by simp)
      refine ix_arr arr37 (by omega) (by omega) ?_
      simp only [Int.toNat_natCast, Nat.mul_one, Nat.zero_add]
      refine st_to t1 (Loose.zero _) rfl (by omega) rfl ?_
      intro h3 hh3
      have st3 : Step (fun t => t = (1, 0)) o2 h2 o2 h3 := by rw [hh3]; exact Step.put _ t2
      refine ⟨3 - (i + 1), by omega, i + 1, o2, d, r, D, rfl, by omega, rfl, rfl, rfl, rfl, rfl, ?_, (s0.trans st2.no).trans (st3.mono (by rintro t rfl e; cases e)), (hd.step st2 (by simp) (by simp)).step st3 (by simp) (by simp), hc, hw, hs, (he1.step st2 (by simp)).step st3 (by simp), _, E, by rw [hh3]; exact Hp.set_same _ _ _, t2, by simpa using t3, ?_⟩
      · rw [wrap_i64] <;> omega
      · intro j hj
        by_cases hji : j = i
        · subst hji
          rw [Array.getElem?_setIfInBounds_self_of_lt (by omega)]
        · rw [Array.getElem?_setIfInBounds_ne (by omega)]
          exact t4 j (by omega)
    · obtain rfl : i = 3 := by omega
      refine crash_ok hd (by omega) ?_
      intro o2 h2 hd2 st2
      have e0 : crashD D y5 y6 y7 = ⟨D.room, D.seen, D.seen, [], false, 0, false⟩ := by
        unfold crashD
        rw [hw, hs]
        rfl
      rw [e0] at hd2
      exact ⟨3, 0, o2, d, r, _, rfl, by omega, rfl, rfl, rfl, rfl, rfl, rfl, s0.trans (st2.ofMut (by omega)), hd2, ⟨rfl, rfl⟩, rfl, rfl, he1.of st2 (by omega), ht.step st2 (by simp [Of])⟩
  · rintro n y5 y6 y7 y8 y12 y86 hh ⟨i, o1, d, r, D, hns, hi, rfl, rfl, rfl, rfl, rfl, rfl, s0, hd, hc, hw, hs, he1, ht⟩
    obtain rfl : n = 3 - i := by simpa using hns
    unfold V3_32762
    refine bIf_dec (fun hlt => ?_) (fun hge => ?_)
    · refine read_ok (t := (1, 0)) hd he1 (fun hn => absurd ⟨by omega, by omega⟩ hn) (fun _ hg => by rw [hc.2] at hg; cases hg) ?_
      intro _ _ o2 h2 a2 c2 f2 st2
      refine asTu_i (unc_i (asSl_i (unc_i (nilL_i ?_))))
      refine nl_nil (bIf_f rfl ?_)
      refine str_ok bytes24 f2.read ?_
      have ht2 := ht.step st2 (by simp)
      obtain ⟨cs, E, t1, t2, t3, t4⟩ := id ht2
      refine ix_arr arr37 (by omega) (by omega) ?_
      simp only [Int.toNat_natCast, Nat.mul_one, Nat.zero_add]
      refine ld_s t1 (t4 i (by omega)) ?_
      unfold V3_s4193587
      refine bIf_f (by rw [strEq_str, beq_self_eq_true]; rfl) ?_
      refine ⟨3 - (i + 1), by omega, i + 1, o2, d, r, D, rfl, by omega, rfl, rfl, rfl, rfl, rfl, ?_, s0.trans st2.no, hd.step st2 (by simp) (by simp), hc, hw, hs, he1.step st2 (by simp), ht2⟩
      rw [wrap_i64] <;> omega
    · obtain rfl : i = 3 := by omega
      have hok := hd.ok
      have hroom := hd.room
      refine size_ok hd ?_
      refine asIn_i ?_
      have hsz : szD D 2 = (D.seen 2).length := by unfold szD; rw [if_pos (by omega)]; rfl
      have hs2 := hok.seens 2 (by omega)
      rw [hsz]
      refine lit_ok o1 (1, 0) bytes24 (l := app8) rfl rfl ?_
      intro o2 h2 r2 hr2 f2 st2
      have hd2 := hd.step st2 (by simp) (by simp)
      have he2 := he1.step st2 (by simp)
      refine write_ok (l := app8) hd2 he2 (by omega) (by rw [hw]; simp) f2.read (by decide) ?_
      intro o3 h3 hd3 st3
      have he3 := he2.of st3 (by omega)
      have ht3 := (ht.step st2 (by simp)).step st3 (by simp [Of])
      have hwr : (writeD D 2 ((D.seen 2).length : Int) app8 = (D, 2) ∧ freeD D < 8) ∨
          writeD D 2 ((D.seen 2).length : Int) app8 = ({ D with waits := [⟨2, (D.seen 2).length, app8, false⟩], seen := doI D.seen ⟨2, (D.seen 2).length, app8, false⟩ }, 0) := by
        have h8 : app8.length = 8 := rfl
        unfold writeD
        rw [hsz, if_pos ⟨by omega, by omega, by omega⟩, h8]
        by_cases hfr : freeD D < 8
        · left
          rw [if_pos (by omega)]
          exact ⟨rfl, hfr⟩
        · right
          rw [if_neg (by omega), hc.wait, hc.go, hw]
          rfl
      rcases hwr with ⟨e1, hfr⟩ | e1
      · rw [e1] at hd3 ⊢
        refine nl_err he3.2.1 (bIf_t rfl ?_)
        refine free_ok hd3 ?_
        refine asIn_i ?_
        rw [show decide (freeD D < 8) = true by simpa using hfr]
        exact H _ _ ((s0.trans st2.no).trans (st3.ofMut (by omega)))
      · rw [e1] at hd3 ⊢
        refine nl_nil (bIf_f rfl ?_)
        refine crash_ok hd3 (by omega) ?_
        intro o4 h4 hd4 st4
        have he4 := he3.of st4 (by omega)
        have ht4 := ht3.step st4 (by simp [Of])
        refine read_ok (t := (1, 0)) hd4 he4 (fun hn => absurd (by decide) hn) (fun _ hg => by cases hg) ?_
        intro _ _ o5 h5 a5 c5 f5 st5
        refine asTu_i (unc_i (asSl_i (unc_i (nilL_i ?_))))
        refine nle_nil (bIf_t rfl ?_)
        obtain ⟨k, hk, hB⟩ : ∃ k, k ≤ app8.length ∧ (crashD { D with waits := [⟨2, (D.seen 2).length, app8, false⟩], seen := doI D.seen ⟨2, (D.seen 2).length, app8, false⟩ } y5 y6 y7).seen (Int.toNat 2) = D.seen 2 ++ app8.take k := by
          obtain ⟨k, hk, e2⟩ := crash_end (keptN { D with waits := [⟨2, (D.seen 2).length, app8, false⟩], seen := doI D.seen ⟨2, (D.seen 2).length, app8, false⟩ } y5) y6 y7 D.seen app8
          refine ⟨k, hk, ?_⟩
          rw [← e2]
          unfold crashD
          dsimp only
          rw [hs]
          rfl
        rw [hB] at f5 ⊢
        have h8 : app8.length = 8 := rfl
        have hBl : (D.seen 2 ++ app8.take k).length = (D.seen 2).length + k := by rw [List.length_append, List.length_take]; omega
        have hwr : IntKind.i64.wrap (((D.seen 2).length : Int) + 8) = (D.seen 2).length + 8 := by rw [wrap_i64] <;> omega
        rw [hwr]
        refine bIf_t (by rw [hBl]; simp; omega) ?_
        refine bIf_t (by rw [hBl]; simp; omega) ?_
        refine str_ok bytes24 f5.read ?_
        obtain ⟨cs, E, t1, t2, t3, t4⟩ := ht4.step st5 (by simp)
        refine ld_s t1 (t4 2 (by omega)) ?_
        refine str_add (a := D.seen 2) (b := app8) (by omega) ?_
        refine str_hi bytes24 (by omega) (by rw [hBl, List.length_append]; omega) ?_
        rw [Int.toNat_natCast, strEq_str]
        have e3 : (D.seen 2 ++ app8).take (D.seen 2 ++ app8.take k).length = D.seen 2 ++ app8.take k := by
          rw [hBl, List.take_length_add_append]
        rw [e3, beq_self_eq_true]
        exact H _ _ ((((s0.trans st2.no).trans (st3.ofMut (by omega))).trans (st4.ofMut (by omega))).trans st5.no)
  · unfold V3
    refine nw_to ?_
    intro r h1 hr hh1
    have st1 : Step (fun _ => False) o h (o.set r (1, 0)) h1 := by rw [hh1]; exact Step.new _ _ hr
    have hr1 : h1 r = some (.cells #[.int .i64 x0, .int .i64 x1, .int .i64 kept, .int .i64 torn, .int .u64 sc, .slice ba bn bcap] 26) := by rw [hh1]; exact Hp.set_same _ _ _
    have or1 : (o.set r (1, 0)) r = (1, 0) := Own.set_same _ _ _
    refine alive_ok (τ := 2) (he.step st1 (by simp)) (by omega) ?_
    intro o2 h2 st2
    refine asBo_i (bIf_f rfl ?_)
    refine long_ok ((hl.step st1 (by simp)).step st2 (by simp [Of])) ?_
    intro o3 h3 b hb st3
    refine asBo_i (bIf_ite (fun ht => H _ _ ((st1.no.trans (st2.ofMut (by omega))).trans st3.no)) (fun hf => ?_))
    obtain ⟨hb1, hb2⟩ := hb hf
    obtain ⟨hr2, or2⟩ := st2.at hr1 (by rw [or1]; simp [Of])
    obtain ⟨hr3, or3⟩ := st3.at hr2 (by simp)
    have he3 := ((he.step st1 (by simp)).step st2 (by simp [Of])).step st3 (by simp)
    have hl3 := ((hl.step st1 (by simp)).step st2 (by simp [Of])).step st3 (by simp)
    refine ld_i hr3 rfl ?_
    refine ld_i hr3 rfl ?_
    refine ld_i hr3 rfl ?_
    refine new_ok (τ := 3) he3 (fun hb => by omega) (fun _ o4 h4 d hd hd4 st4 => ?_)
    refine asTu_i (unc_i (asPt_i (unc_i (nilL_i ?_))))
    refine nl_nil (bIf_f rfl ?_)
    have hn := hl.count
    exact ⟨l.length, 0, o4, d, newD 1000, rfl, by omega, rfl, rfl, rfl, rfl, by rw [hn], rfl, ((st1.no.trans (st2.ofMut (by omega))).trans st3.no).trans st4.no, hd4, ⟨rfl, rfl⟩, by simp [newD], he3.step st4 (by simp), hl3.step st4 (by simp), hb1, hb2⟩
end Go.Proofs.YtcolhmddhaabnaaDoor
