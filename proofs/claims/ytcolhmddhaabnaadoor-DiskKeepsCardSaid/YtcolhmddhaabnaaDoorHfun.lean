import Derived.Test.YtcolhmddhaabnaaDoorHcode
import Derived.Laws.Sem
namespace Go.H

/-! ### Code -/
abbrev Post := Exit → List Value → Hp → Prop
abbrev Inv := Nat → List Nat → List Value → Hp → Prop
def thenQ (K : List Value → Hp → Prop) (Q : Post) : Post
  | .normal => K
  | e => Q e
def blockQ (id : Nat) (Q : Post) : Post
  | .exit id', l, h => match Nat.beq id' id with
    | true => Q .normal l h
    | false => Q (.exit id') l h
  | e, l, h => Q e l h
def regionW (P : Program) (pl : Nat → Plan) (id : Nat) (ops : Array Oper) (draw : Bool) (Q : Post) (l : List Value) (h : Hp) : Prop :=
  match draw with
  | false => seqW P ops ops.toList l h (Q .normal)
  | true => regW P ops (pl id) [] l h (Q .normal)
def oIf (l : List Value) (c : Operand) (A B : List Value → Prop) : Prop :=
  match c with
  | .tmp d => match l.getD d undef with
    | .bool b => match b with
      | true => A (l.set d (.bool true))
      | false => B (l.set d (.bool false))
    | _ => False
  | .const (.bool b) => match b with
    | true => A l
    | false => B l
  | _ => False

/-- A frame, by a list of values of its slots' types. -/
def chkV (z v : Value) (A : Prop) : Prop :=
  match z with
  | .int k _ => asIn k v fun _ => A
  | .bool _ => asBo v fun _ => A
  | .string _ => asStr v fun _ => A
  | .slice .. => asSl v fun _ _ _ => A
  | .pointer none => asPt v fun _ => A
  | .pointer (some _) => asAd v fun _ => A
  | _ => A
def chk : List Value → List Value → Prop → Prop
  | [], l, A => nilL l A
  | z :: zs, l, A => unc l fun v r => chkV z v (chk zs r A)
def allV (z : Value) (F : Value → Prop) : Prop :=
  match z with
  | .int k _ => ∀ n, F (.int k n)
  | .bool _ => ∀ b, F (.bool b)
  | .string _ => ∀ b, F (.string b)
  | .slice .. => ∀ a n c, F (.slice a n c)
  | .pointer none => ∀ a, F (.pointer a)
  | .pointer (some _) => ∀ ad, F (.pointer (some ad))
  | _ => ∀ v, F v
/-- For all frames of these types. -/
def allT : List Value → (List Value → Prop) → Prop
  | [], F => F []
  | z :: zs, F => allV z fun v => allT zs fun l => F (v :: l)
theorem chkV_out {z v : Value} {A : Prop} (h : chkV z v A) : A := by
  unfold chkV at h
  split at h
  · unfold asIn at h; split at h
    · split at h <;> first | exact h | exact h.elim
    · exact h.elim
  · unfold asBo at h; split at h <;> first | exact h | exact h.elim
  · unfold asStr at h; split at h <;> first | exact h | exact h.elim
  · unfold asSl at h; split at h <;> first | exact h | exact h.elim
  · unfold asPt at h; split at h <;> first | exact h | exact h.elim
  · unfold asAd at h; split at h <;> first | exact h | exact h.elim
  · exact h
theorem allV_spec {z v : Value} {F : Value → Prop} {A : Prop} (h : allV z F) (hc : chkV z v A) : F v := by
  cases z with
  | int k n =>
    simp only [chkV, asIn] at hc
    split at hc
    · split at hc
      · rename_i hk; rw [kEq_eq hk]; exact h _
      · exact hc.elim
    · exact hc.elim
  | bool b => simp only [chkV, asBo] at hc; split at hc <;> first | exact h _ | exact hc.elim
  | string b => simp only [chkV, asStr] at hc; split at hc <;> first | exact h _ | exact hc.elim
  | slice a n c => simp only [chkV, asSl] at hc; split at hc <;> first | exact h _ _ _ | exact hc.elim
  | pointer a =>
    cases a with
    | none => simp only [chkV, asPt] at hc; split at hc <;> first | exact h _ | exact hc.elim
    | some ad => simp only [chkV, asAd] at hc; split at hc <;> first | exact h _ | exact hc.elim
  | _ => exact h v
theorem allT_spec : ∀ {zs : List Value} {F : List Value → Prop} {l : List Value} {A : Prop}, allT zs F → chk zs l A → F l ∧ A
  | [], F, l, A, h, hc => by
    cases l with
    | nil => exact ⟨h, hc⟩
    | cons v r => exact hc.elim
  | z :: zs, F, l, A, h, hc => by
    cases l with
    | nil => exact hc.elim
    | cons v r =>
      have h1 : allT zs fun l => F (v :: l) := allV_spec (F := fun v => allT zs fun l => F (v :: l)) h hc
      exact allT_spec (F := fun l => F (v :: l)) h1 (chkV_out (A := chk zs r A) hc)

def awp (P : Program) (pl : Nat → Plan) (cut : Nat → Bool) (tm : Nat → List Value) (Γ : Inv) : Nat → List Nat → Code → Post → List Value → Hp → Prop
  | _, _, .skip, Q => Q .normal
  | _, _, .label _, Q => Q .normal
  | _, _, .region id ops draw, Q => regionW P pl id ops draw Q
  | p, ns, .seq x y, Q => awp P pl cut tm Γ (2 * p) ns x (thenQ (match cut p with
      | true => fun l h => chk (tm p) l (Γ p ns l h)
      | false => awp P pl cut tm Γ (2 * p + 1) ns y Q) Q)
  | p, ns, .cond c x y, Q => fun l h => oIf l c (fun l => awp P pl cut tm Γ (2 * p) ns x Q l h) (fun l => awp P pl cut tm Γ (2 * p + 1) ns y Q l h)
  | p, ns, .block id c, Q => awp P pl cut tm Γ (2 * p) ns c (blockQ id Q)
  | p, ns, .loop _, _ => fun l h => ∃ n, chk (tm p) l (Γ p (n :: ns) l h)
  | _, _, .exit id, Q => Q (.exit id)
  | _, _, .ret, Q => Q .ret
  | _, _, _, _ => fun _ _ => False

def loopQ (tm : Nat → List Value) (Γ : Inv) (p : Nat) (n : Nat) (ns : List Nat) (Q : Post) : Post := thenQ (fun l h => ∃ m, m < n ∧ chk (tm p) l (Γ p (m :: ns) l h)) Q
def allP : List Prop → Prop
  | [] => True
  | [A] => A
  | A :: r => A ∧ allP r
theorem allP_cons {A : Prop} {r : List Prop} : allP (A :: r) ↔ A ∧ allP r := by
  cases r with
  | nil => exact ⟨fun h => ⟨h, trivial⟩, fun h => h.1⟩
  | cons B r => exact Iff.rfl
theorem allP_append {a b : List Prop} : allP (a ++ b) ↔ allP a ∧ allP b := by
  induction a with
  | nil => exact ⟨fun h => ⟨trivial, h⟩, fun h => h.2⟩
  | cons A r ih => rw [List.cons_append, allP_cons, allP_cons, ih, and_assoc]
/-- What is owed at the cuts: at the head of each loop, and where ways are let meet. -/
def obls (P : Program) (pl : Nat → Plan) (cut : Nat → Bool) (tm : Nat → List Value) (Γ : Inv) : Nat → List Nat → Code → Post → List Prop
  | p, ns, .seq x y, Q => obls P pl cut tm Γ (2 * p) ns x (thenQ (match cut p with
      | true => fun l h => chk (tm p) l (Γ p ns l h)
      | false => awp P pl cut tm Γ (2 * p + 1) ns y Q) Q) ++ (obls P pl cut tm Γ (2 * p + 1) ns y Q ++
      (match cut p with
      | true => [allT (tm p) fun l => ∀ h, Γ p ns l h → awp P pl cut tm Γ (2 * p + 1) ns y Q l h]
      | false => []))
  | p, ns, .cond _ x y, Q => obls P pl cut tm Γ (2 * p) ns x Q ++ obls P pl cut tm Γ (2 * p + 1) ns y Q
  | p, ns, .block id c, Q => obls P pl cut tm Γ (2 * p) ns c (blockQ id Q)
  | p, ns, .loop c, Q => [∀ n, allP (obls P pl cut tm Γ (2 * p) (n :: ns) c (loopQ tm Γ p n ns Q) ++
      [allT (tm p) fun l => ∀ h, Γ p (n :: ns) l h → awp P pl cut tm Γ (2 * p) (n :: ns) c (loopQ tm Γ p n ns Q) l h])]
  | _, _, _, _ => []
def selI (q : Nat) (A B : List Nat → List Value → Hp → Prop) (p : Nat) : List Nat → List Value → Hp → Prop :=
  match Nat.beq p q with
  | true => A
  | false => B
def selP (q : Nat) (A B : Plan) (p : Nat) : Plan :=
  match Nat.beq p q with
  | true => A
  | false => B
def selT (q : Nat) (A B : List Value) (p : Nat) : List Value :=
  match Nat.beq p q with
  | true => A
  | false => B

/-- Every region that draws has a plan that serves. -/
def plansOk (P : Program) (pl : Nat → Plan) : Code → Bool
  | .region id ops draw => match draw with
    | true => Region.noSelect ops && (planOk P ops true (pl id) (Array.replicate ops.size false) && (depth (pl id)).ble ops.size)
    | false => true
  | .seq x y => plansOk P pl x && plansOk P pl y
  | .cond _ x y => plansOk P pl x && plansOk P pl y
  | .block _ c => plansOk P pl c
  | .loop c => plansOk P pl c
  | _ => true

def Qw (Q : Post) (w0 : World) (N : Nat) : Exit → Act → World → Prop
  | .panic _, _, _ | .outgrown, _, _ | .goto _, _, _ => False
  | e, a, w => a.defers = [] ∧ a.tmps.size = N ∧ Same w0 w ∧ Q e a.tmps.toList (hp w)

theorem wp_loopN {P : Program} {Q : Exit → Act → World → Prop} {c : Code} (J : Nat → Act → World → Prop)
    (round : ∀ n a w, J n a w → c.wp P (Exit.then (fun a' w' => ∃ m, m < n ∧ J m a' w') Q) a w) : ∀ n a w, J n a w → (Code.loop c).wp P Q a w := by
  intro n a w h₀ b k cs
  have key : ∀ n a w, J n a w →
      ∃ e a' w', Q e a' w' ∧ Arrives P (lone (b.at a (.code c :: .inLoop c :: k)) cs w) b k cs e a' w' := by
    intro n
    induction n using Nat.strongRecOn with
    | _ n ih =>
      intro a w hI
      obtain ⟨e, a₁, w₁, hq, harr⟩ := round n a w hI b (.inLoop c :: k) cs
      cases e with
      | normal =>
        obtain ⟨m, hlt, hI₁⟩ := hq
        obtain ⟨e₂, a₂, w₂, hq₂, harr₂⟩ := ih m hlt a₁ w₁ hI₁
        exact ⟨e₂, a₂, w₂, hq₂, .of_steps (Steps.trans harr (.one step_inLoop)) harr₂⟩
      | exit id => exact ⟨_, a₁, w₁, hq, .pass (x := .inLoop c) rfl (fun _ _ => .inl (by simp)) harr⟩
      | goto l => exact ⟨_, a₁, w₁, hq, .pass (x := .inLoop c) rfl (fun _ _ => .inl (by simp)) harr⟩
      | ret => exact ⟨_, a₁, w₁, hq, .pass (x := .inLoop c) rfl (fun _ _ => .inl (by simp)) harr⟩
      | panic ch => exact ⟨_, a₁, w₁, hq, .pass (x := .inLoop c) rfl (fun _ _ => .inl (by simp)) harr⟩
      | outgrown => exact ⟨_, a₁, w₁, hq, .pass (x := .inLoop c) rfl (fun _ _ => .inl (by simp)) harr⟩
  obtain ⟨e, a', w', hq, harr⟩ := key n a w h₀
  exact ⟨e, a', w', hq, .of_steps (.one step_loop) harr⟩


/-! ### Monotony -/
theorem shp_mono {z v : Value} {K K' : Value → Prop} (hk : ∀ v, K v → K' v) (h : shp z v K) : shp z v K' := by
  unfold shp at h ⊢
  split at h
  · unfold asIn at h ⊢
    split at h
    · split at h
      · exact hk _ h
      · exact h.elim
    · exact h.elim
  · unfold asBo at h ⊢; split at h <;> first | exact hk _ h | exact h.elim
  · unfold asStr at h ⊢; split at h <;> first | exact hk _ h | exact h.elim
  · unfold asSl at h ⊢; split at h <;> first | exact hk _ h | exact h.elim
  · unfold asPt at h ⊢; split at h <;> first | exact hk _ h | exact h.elim
  · exact hk _ h
theorem shpL_mono : ∀ {zs l acc : List Value} {K K' : List Value → Prop}, (∀ v, K v → K' v) → shpL zs l acc K → shpL zs l acc K'
  | [], l, acc, K, K', hk, h => by
    cases l with
    | nil => exact hk _ h
    | cons v r => exact h.elim
  | z :: zs, l, acc, K, K', hk, h => by
    cases l with
    | nil => exact h.elim
    | cons v r => exact shp_mono (K := fun v => shpL zs r (acc ++ [v]) K) (K' := fun v => shpL zs r (acc ++ [v]) K') (fun v hv => shpL_mono hk hv) h
theorem shA_mono {z v : Value} {K K' : Value → Prop} (hk : ∀ v, K v → K' v) (h : shA z v K) : shA z v K' := by
  unfold shA at h ⊢
  split at h
  · split at h
    · exact hk _ h
    · unfold asAg at h ⊢
      split at h
      · exact shpL_mono (fun _ => hk _) h
      · exact h.elim
  · exact shp_mono hk h
theorem shT_mono : ∀ {zs l acc : List Value} {K K' : List Value → Prop}, (∀ v, K v → K' v) → shT zs l acc K → shT zs l acc K'
  | [], l, acc, K, K', hk, h => by
    cases l with
    | nil => exact hk _ h
    | cons v r => exact h.elim
  | z :: zs, l, acc, K, K', hk, h => by
    cases l with
    | nil => exact h.elim
    | cons v r => exact shA_mono (K := fun v => shT zs r (acc ++ [v]) K) (K' := fun v => shT zs r (acc ++ [v]) K') (fun v hv => shT_mono hk hv) h
theorem shape_mono {z v : Value} {K K' : Value → Prop} (hk : ∀ v, K v → K' v) (h : shape z v K) : shape z v K' := by
  unfold shape at h ⊢
  split at h
  · split at h
    · exact hk _ h
    · unfold asTu at h ⊢
      split at h
      · exact shT_mono (fun _ => hk _) h
      · exact h.elim
  · exact shA_mono hk h
theorem oRd_mono {P : Program} {s : Sem Value} {h : Hp} {K K' : Value → Prop} (hk : ∀ v, K v → K' v) (H : oRd P s h K) : oRd P s h K' := by
  unfold oRd at H ⊢
  split at H
  · exact hk _ H
  · exact H.elim
theorem ld_mono {h : Hp} {ad : Addr} {K K' : Value → Prop} (hk : ∀ v, K v → K' v) (H : ld h ad K) : ld h ad K' := by
  unfold ld at H ⊢
  split at H
  · exact hk _ H
  · exact H.elim
theorem ldL_mono : ∀ {zs : List Value} {h : Hp} {ad : Addr} {i : Nat} {acc : List Value} {K K' : List Value → Prop}, (∀ v, K v → K' v) → ldL zs h ad i acc K → ldL zs h ad i acc K'
  | [], _, _, _, _, _, _, hk, H => hk _ H
  | _ :: _, _, _, _, _, _, _, hk, H => ld_mono (fun _ hv => shp_mono (fun _ hv => ldL_mono hk hv) hv) H
theorem roW_mono {P : Program} {o : Oper} {l : List Value} {s : Sem Value} {h : Hp} {K K' : Value → Prop} (hk : ∀ v, K v → K' v) (H : roW P o l s h K) : roW P o l s h K' := by
  unfold roW at H ⊢
  split at H
  · unfold asBo at H ⊢; split at H <;> first | exact hk _ H | exact H.elim
  · unfold ldW at H ⊢
    split at H
    · split at H
      · split at H
        · exact ld_mono (fun _ hv => shp_mono hk hv) H
        · exact H.elim
      · split at H
        · exact ldL_mono (fun _ => hk _) H
        · exact oRd_mono hk H
    · exact H.elim
  · unfold oNil at H ⊢
    split at H
    · unfold nz at H ⊢
      split at H
      · exact hk _ H
      · exact H.elim
    · exact oRd_mono hk H
  · exact oRd_mono (fun v hv => by unfold asAd at hv ⊢; split at hv <;> first | exact hk _ hv | exact hv.elim) H
  · exact oRd_mono (fun v hv => by unfold asAd at hv ⊢; split at hv <;> first | exact hk _ hv | exact hv.elim) H
  · split at H
    · exact hk _ H
    · exact oRd_mono (fun v hv => shape_mono hk hv) H
  · split at H
    · unfold nlW at H ⊢
      split at H
      · split at H <;> first | exact shape_mono hk H | exact H.elim
      · unfold asPt at H ⊢; split at H <;> first | exact shape_mono hk H | exact H.elim
      · unfold asSl at H ⊢; split at H <;> first | exact shape_mono hk H | exact H.elim
      · exact H.elim
    · exact oRd_mono (fun v hv => shape_mono hk hv) H
  · exact oRd_mono (fun v hv => shape_mono hk hv) H
theorem Nx_mono {P : Program} {K K' : Value → Hp → Prop} (hk : ∀ v h', K v h' → K' v h') : ∀ (n : Next) (h : Hp), Nx P K n h → Nx P K' n h := by
  intro n h H
  cases n <;> first
    | exact hk _ _ H
    | exact Runs.mono H hk
    | exact H
theorem stW_mono {P : Program} {t : TypeId} {x v : Value} {h : Hp} {K K' : Hp → Prop} (hk : ∀ h', K h' → K' h') (H : stW P t x v h K) : stW P t x v h K' := by
  have hL : ∀ (l : List Value) (ad : Addr) (h : Hp) (i : Nat), stL l h ad i K → stL l h ad i K' := by
    intro l ad
    induction l with
    | nil => intro h i H; exact hk _ H
    | cons c r ih => intro h i H; exact stL_aw.st_mono (fun h' hh => ih h' _ hh) H
  unfold stW at H ⊢
  split at H
  · split at H
    · split at H
      · exact stL_aw.st_mono hk H
      · exact aw_mono (fun _ h' => hk h') H
    · split at H
      · split at H
        · split at H
          · exact hL _ _ _ _ H
          · exact H.elim
        · exact H.elim
      · exact aw_mono (fun _ h' => hk h') H
  · exact H.elim
theorem nw_mono {h : Hp} {o : Obj} {K K' : Nat → Hp → Prop} (hk : ∀ r h', K r h' → K' r h') (H : nw h o K) : nw h o K' := fun r hr => hk _ _ (H r hr)
theorem efW_mono {P : Program} {o : Oper} {l : List Value} {h : Hp} {K K' : Value → Hp → Prop} (hk : ∀ v h', K v h' → K' v h') (H : efW P o l h K) : efW P o l h K' := by
  have hsh : ∀ (z v : Value) (h : Hp), (shape z v fun v => K v h) → shape z v fun v => K' v h := fun z v h => shape_mono (fun v => hk v h)
  unfold efW at H ⊢
  split at H
  · unfold allocW at H ⊢
    split at H
    · exact nw_mono (fun _ h' => hk _ h') H
    · exact H.elim
  · unfold boxW at H ⊢
    split at H
    · exact nw_mono (fun _ h' => hk _ h') H
    · unfold pl at H ⊢
      split at H
      · exact nw_mono (fun _ h' => hk _ h') H
      · exact H.elim
  · split at H
    · split at H
      · split at H
        · exact nw_mono (fun _ h' => hk _ h') H
        · exact aw_mono (fun v h => hsh _ v h) H
      · exact aw_mono (fun v h => hsh _ v h) H
    · exact H.elim
  · exact stW_mono (fun h' => hk _ h') H
  · exact aw_mono (fun v h => hsh _ v h) H
  · exact aw_mono (fun v h => hsh _ v h) H
  · exact aw_mono hk H
  · exact aw_mono (fun _ h' => hk _ h') H
  · exact aw_mono (fun _ h' => hk _ h') H
  · exact aw_mono (fun v h => hsh _ v h) H
  · exact aw_mono hk H
  · exact aw_mono (fun v h => hsh _ v h) H
  · exact Spec.mono H (fun v h => hsh _ v h)
  · unfold oVal at H ⊢
    split at H
    · exact Spec.mono H (fun v h => hsh _ v h)
    · exact H.elim
  · exact aw_mono (fun n h => Nx_mono (fun v h => hsh _ v h) n h) H
  · exact aw_mono (fun n h => Nx_mono (fun v h => hsh _ v h) n h) H
  · exact H.elim

theorem seqW_sound {P : Program} {ops : Array Oper} {Q : Post} {w0 : World} {a : Act} {w : World} {id : Nat} (hd : a.defers = []) (hS : Same w0 w)
    (h : seqW P ops ops.toList a.tmps.toList (hp w) (Q .normal)) : (Code.region id ops false).wp P (Qw Q w0 a.tmps.size) a w := by
  refine wp_region ?_
  have hlen : ∀ (r : List Oper) (l : List Value) (h : Hp) (K K' : List Value → Hp → Prop), (∀ l' h', l'.length = l.length → K l' h' → K' l' h') → seqW P ops r l h K → seqW P ops r l h K' := by
    intro r
    induction r with
    | nil => intro l h K K' hk hs; exact hk _ _ rfl hs
    | cons o r ih =>
      intro l h K K' hk hs
      simp only [seqW] at hs ⊢
      have step : ∀ v h', seqW P ops r (putL l o.dst v) h' K → seqW P ops r (putL l o.dst v) h' K' := fun v h' =>
        ih _ _ _ _ fun l' h' hl' => hk l' h' (by rw [hl', putL_length])
      cases hw : wantL ops o l with
      | false => exact (guardW_false hw).2 (step _ _ ((guardW_false hw).1 hs))
      | true => exact (guardW_true hw).2 (opW_mono step ((guardW_true hw).1 hs))
  have := wpOps_seq (P := P) (ops := ops) (Q := Qw Q w0 a.tmps.size) (w0 := w0) (K := fun l h => l.length = a.tmps.size ∧ Q .normal l h)
    (fun a' w' hd' hS' ⟨hl, hK⟩ => ⟨hd', by simpa using hl, hS', hK⟩) ops.toList 0 (fun j => by simp) a w hd hS
    (hlen _ _ _ _ _ (fun l' h' hl' hK => ⟨by simpa using hl', hK⟩) h)
  rw [List.range_eq_range']
  simpa using this
where
  opW_mono {P : Program} {o : Oper} {l : List Value} {h : Hp} {K K' : Value → Hp → Prop} (hk : ∀ v h', K v h' → K' v h') (H : opW P o l h K) : opW P o l h K' := by
    unfold opW at H ⊢
    split at H
    · exact hk _ _ H
    · exact roW_mono (fun v => hk v _) H
    · exact efW_mono hk H

theorem awp_sound {P : Program} {pl : Nat → Plan} {cut : Nat → Bool} {tm : Nat → List Value} {Γ : Inv} {N : Nat} {w0 : World} (hm : P.follows .mixedOrders = true) (c : Code) :
    ∀ (p : Nat) (ns : List Nat) (Q : Post) (a : Act) (w : World), plansOk P pl c = true → allP (obls P pl cut tm Γ p ns c Q) → a.defers = [] → a.tmps.size = N → Same w0 w →
      awp P pl cut tm Γ p ns c Q a.tmps.toList (hp w) → c.wp P (Qw Q w0 N) a w := by
  induction c with
  | skip => intro p ns Q a w _ _ hd hn hS h; exact wp_skip ⟨hd, hn, hS, h⟩
  | label l => intro p ns Q a w _ _ hd hn hS h; exact wp_label ⟨hd, hn, hS, h⟩
  | exit id => intro p ns Q a w _ _ hd hn hS h; exact wp_exit ⟨hd, hn, hS, h⟩
  | ret => intro p ns Q a w _ _ hd hn hS h; exact wp_ret ⟨hd, hn, hS, h⟩
  | goto l => intro p ns Q a w _ _ hd hn hS h; exact h.elim
  | scope c => intro p ns Q a w _ _ hd hn hS h; exact h.elim
  | refuse s => intro p ns Q a w _ _ hd hn hS h; exact h.elim
  | rangeFunc => intro p ns Q a w _ _ hd hn hS h; exact h.elim
  | region id ops draw =>
    intro p ns Q a w hp' _ hd hn hS h
    subst hn
    cases draw with
    | false => exact seqW_sound hd hS h
    | true =>
      simp only [plansOk, Bool.and_eq_true] at hp'
      obtain ⟨hs, hpl, hdep⟩ := hp'
      refine wp_region_any hm (wpAny_of_L _ _ _ _ (regW_sound (w0 := w0) (K := fun l h => l.length = a.tmps.size ∧ Q .normal l h) hs (fun c a w hh => hh)
        (fun a' w' hd' hS' ⟨hl, hK⟩ => ⟨hd', by simpa using hl, hS', hK⟩) (depth (pl id)) (pl id) [] _ _ a _ (Nat.le_refl _) (Nat.le_of_ble_eq_true hdep) hpl ?_ (fun x hx => by cases hx) hd (.trans hS ⟨rfl, rfl⟩) (fun x hx => by cases hx) ?_))
      · intro j i hj
        rcases Nat.lt_or_ge j ops.size with h' | h'
        · simp [h'] at hj
        · simp [h'] at hj
      · exact regW_len _ _ _ _ _ _ (fun l' h' hl' hK => ⟨by simpa using hl', hK⟩) h
  | seq x y ihx ihy =>
    intro p ns Q a w hp' ho hd hn hS h
    simp only [plansOk, Bool.and_eq_true] at hp'
    simp only [obls] at ho
    obtain ⟨o1, ho⟩ := allP_append.1 ho
    obtain ⟨o2, o3⟩ := allP_append.1 ho
    refine wp_seq (wp_mono (ihx _ _ _ a w hp'.1 o1 hd hn hS h) fun e a' w' hq => ?_)
    cases e with
    | normal =>
      obtain ⟨hd', hn', hS', hq⟩ := hq
      simp only [thenQ] at hq
      refine ihy _ _ _ a' w' hp'.2 o2 hd' hn' hS' ?_
      cases hc : cut p with
      | false => rw [hc] at hq; exact hq
      | true =>
        rw [hc] at hq o3
        exact (allT_spec o3 hq).1 (hp w') (allT_spec o3 hq).2
    | _ => exact hq
  | cond c x y ihx ihy =>
    intro p ns Q a w hp' ho hd hn hS h
    simp only [plansOk, Bool.and_eq_true] at hp'
    simp only [obls] at ho
    replace ho := allP_append.1 ho
    simp only [awp, oIf] at h
    have fin : ∀ b : Bool, evalL a.tmps.toList c = .bool b → (match b with
        | true => awp P pl cut tm Γ (2 * p) ns x Q a.tmps.toList (hp w)
        | false => awp P pl cut tm Γ (2 * p + 1) ns y Q a.tmps.toList (hp w)) → (Code.cond c x y).wp P (Qw Q w0 N) a w := by
      intro b hb h
      rw [evalL_act] at hb
      cases b with
      | true => exact wp_cond_true hb (ihx _ _ _ a w hp'.1 ho.1 hd hn hS h)
      | false => exact wp_cond_false hb (ihy _ _ _ a w hp'.2 ho.2 hd hn hS h)
    split at h
    · rename_i d
      split at h
      · rename_i b hb
        refine fin b hb ?_
        have hs := set_same hb
        cases b <;> (dsimp only at h ⊢; rw [hs] at h; exact h)
      · exact h.elim
    · rename_i b
      exact fin b rfl h
    · exact h.elim
  | block id c ih =>
    intro p ns Q a w hp' ho hd hn hS h
    refine wp_block (wp_mono (ih _ _ _ a w hp' ho hd hn hS h) fun e a' w' hq => ?_)
    cases e with
    | exit id' =>
      obtain ⟨hd', hn', hS', hq⟩ := hq
      simp only [blockQ] at hq
      simp only [Exit.inBlock]
      cases hb : Nat.beq id' id with
      | true => rw [hb] at hq; rw [if_pos (Nat.eq_of_beq_eq_true hb)]; exact ⟨hd', hn', hS', hq⟩
      | false => rw [hb] at hq; rw [if_neg (Nat.ne_of_beq_eq_false hb)]; exact ⟨hd', hn', hS', hq⟩
    | _ => exact hq
  | loop c ih =>
    intro p ns Q a w hp' ho hd hn hS h
    obtain ⟨n, hn0⟩ := h
    refine wp_loopN (fun n a w => chk (tm p) a.tmps.toList (Γ p (n :: ns) a.tmps.toList (hp w)) ∧ a.defers = [] ∧ a.tmps.size = N ∧ Same w0 w) ?_ n a w ⟨hn0, hd, hn, hS⟩
    rintro n a w ⟨hI, hd, hn, hS⟩
    simp only [obls, allP] at ho
    obtain ⟨o1, o2⟩ := allP_append.1 (ho n)
    refine wp_mono (ih _ _ _ a w hp' o1 hd hn hS ((allT_spec o2 hI).1 (hp w) (allT_spec o2 hI).2)) fun e a' w' hq => ?_
    cases e with
    | normal =>
      obtain ⟨hd', hn', hS', m, hlt, hq⟩ := hq
      exact ⟨m, hlt, hq, hd', hn', hS'⟩
    | _ => exact hq
where
  regW_len {P : Program} {ops : Array Oper} : ∀ (p : Plan) (held : Held) (l : List Value) (h : Hp) (K K' : List Value → Hp → Prop),
      (∀ l' h', l'.length = l.length → K l' h' → K' l' h') → regW P ops p held l h K → regW P ops p held l h K' := by
    intro p
    induction p with
    | nil => intro held l h K K' hk hs; exact hk _ _ rfl hs
    | ro i p ih =>
      intro held l h K K' hk hs
      simp only [regW] at hs ⊢
      cases ho : ops[i]? with
      | none => simp only [ho] at hs
      | some o =>
        simp only [ho] at hs ⊢
        cases hw : wantL ops o l with
        | false => exact (guardW_false hw).2 (ih _ _ _ _ _ (fun l' h' hl' => hk l' h' (by rw [hl', putL_length])) ((guardW_false hw).1 hs))
        | true =>
          refine (guardW_true hw).2 ?_
          replace hs := (guardW_true hw).1 hs
          cases hc : cls P l o with
          | ef => simp only [hc] at hs
          | mv v => simp only [hc] at hs ⊢; exact ih _ _ _ _ _ (fun l' h' hl' => hk l' h' (by rw [hl', putL_length])) hs
          | ro s => simp only [hc] at hs ⊢; exact roW_mono (fun v hv => ih _ _ _ _ _ (fun l' h' hl' => hk l' h' (by rw [hl', putL_length])) hv) hs
    | ef i p q ihp ihq =>
      intro held l h K K' hk hs
      simp only [regW] at hs ⊢
      cases ho : ops[i]? with
      | none => simp only [ho] at hs
      | some o =>
        simp only [ho] at hs ⊢
        have one : guardW ops o l (fun l => opW P o l h fun v h' => stepEf (prune ops i held) h' (regW P ops p (prune ops i held) (putL l o.dst v) h' K)) (fun l => regW P ops p (prune ops i held) (putL l o.dst undef) h K) →
            guardW ops o l (fun l => opW P o l h fun v h' => stepEf (prune ops i held) h' (regW P ops p (prune ops i held) (putL l o.dst v) h' K')) (fun l => regW P ops p (prune ops i held) (putL l o.dst undef) h K') := by
          intro hs
          have hr : ∀ v h', regW P ops p (prune ops i held) (putL l o.dst v) h' K → regW P ops p (prune ops i held) (putL l o.dst v) h' K' := fun v h' =>
            ihp _ _ _ _ _ (fun l' h' hl' => hk l' h' (by rw [hl', putL_length]))
          have st : ∀ v h', stepEf (prune ops i held) h' (regW P ops p (prune ops i held) (putL l o.dst v) h' K) → stepEf (prune ops i held) h' (regW P ops p (prune ops i held) (putL l o.dst v) h' K') := by
            intro v h' hh
            have hr := hr v h'
            generalize prune ops i held = g at hh hr ⊢
            cases g with
            | nil => exact hr hh
            | cons x r => exact ⟨hh.1, hr hh.2⟩
          cases hw : wantL ops o l with
          | true => exact (guardW_true hw).2 (seqW_sound.opW_mono st ((guardW_true hw).1 hs))
          | false => exact (guardW_false hw).2 (hr _ _ ((guardW_false hw).1 hs))
        cases q with
        | nil => exact one hs
        | ro _ _ => exact ⟨one hs.1, ihq _ _ _ _ _ hk hs.2⟩
        | ef _ _ _ => exact ⟨one hs.1, ihq _ _ _ _ _ hk hs.2⟩

/-! ### Functions -/
def resL (P : Program) (fn : Func) (l : List Value) (h : Hp) (K : Value → Hp → Prop) : Prop :=
  match rd P (results fn l.toArray) h with
  | some v => K v h
  | none => False
def mkRes : List Value → Value
  | [v] => v
  | vs => .tuple vs.toArray
def resW (P : Program) : List ResultVar → List Value → Hp → List Value → (Value → Hp → Prop) → Prop
  | [], _, h, acc, K => K (mkRes acc) h
  | .tmp t :: r, l, h, acc, K => resW P r l h (acc ++ [l.getD t undef]) K
  | .cell a t :: r, l, h, acc, K => ldW P t (l.getD a undef) h fun v => resW P r l h (acc ++ [v]) K
def resOf (l : List Value) : ResultVar → Sem Value
  | .tmp t => pure (l.toArray.getD t undef)
  | .cell a t => do loadVar t (← asAddr (l.toArray.getD a undef))
theorem resW_rd {P : Program} {l : List Value} {h : Hp} {K : Value → Hp → Prop} : ∀ (rs : List ResultVar) (acc : List Value), resW P rs l h acc K →
    ∃ vs, rd P (rs.mapM (resOf l)) h = some vs ∧ K (mkRes (acc ++ vs)) h := by
  intro rs
  induction rs with
  | nil => intro acc H; exact ⟨[], rfl, by rw [List.append_nil]; exact H⟩
  | cons r rs ih =>
    intro acc H
    rw [List.mapM_cons]
    have fin : ∀ v, rd P (resOf l r) h = some v → (∃ vs, rd P (rs.mapM (resOf l)) h = some vs ∧ K (mkRes ((acc ++ [v]) ++ vs)) h) →
        ∃ vs, rd P (do let b ← resOf l r; let bs ← rs.mapM (resOf l); pure (b :: bs)) h = some vs ∧ K (mkRes (acc ++ vs)) h := by
      rintro v hv ⟨vs, h1, h2⟩
      refine ⟨v :: vs, ?_, by simpa using h2⟩
      change rd P ((resOf l r).bind fun b => (rs.mapM (resOf l)).bind fun bs => .pure (b :: bs)) h = _
      rw [rd_bind, hv, Option.bind_some, rd_bind, h1]
      rfl
    cases r with
    | tmp t => exact fin _ (by simp [resOf, rd, Pure.pure]) (ih _ H)
    | cell a t =>
      simp only [resW] at H
      have hp : ∃ ad, l.getD a undef = .pointer (some ad) := by
        unfold ldW at H
        split at H
        · rename_i ad hx; exact ⟨ad, hx⟩
        · exact H.elim
      obtain ⟨ad, hp⟩ := hp
      obtain ⟨v, hv, hk⟩ := roW_sound (P := P) (l := [.pointer (some ad)]) (o := { (default : Oper) with op := .load t (.tmp 0) }) (s := Instr.loadAt t (.pointer (some ad))) rfl (by rw [hp] at H; exact H)
      refine fin v ?_ (ih _ hk)
      have e : l.toArray.getD a undef = .pointer (some ad) := by simpa using hp
      simp only [resOf, e]
      exact hv
theorem resW_sound {P : Program} {fn : Func} {l : List Value} {h : Hp} {K : Value → Hp → Prop} (H : resW P fn.results.toList l h [] K) : resL P fn l h K := by
  obtain ⟨vs, h1, h2⟩ := resW_rd _ _ H
  have e : results fn l.toArray = (fn.results.mapM (resOf l) >>= fun vs => pure (if h : vs.size = 1 then vs[0] else .tuple vs)) := by
    unfold results
    congr 1
  have e2 : rd P (results fn l.toArray) h = some (mkRes vs) := by
    rw [e, Array.mapM_eq_mapM_toList]
    change rd P (Sem.bind (Functor.map List.toArray (fn.results.toList.mapM (resOf l))) _) h = _
    rw [rd_bind, map_eq_pure_bind]
    change Option.bind (rd P ((fn.results.toList.mapM (resOf l)).bind _) h) _ = _
    rw [rd_bind, h1]
    simp only [Option.bind_some]
    match vs with
    | [] => rfl
    | [v] => rfl
    | v :: u :: r => simp [rd, Pure.pure, mkRes]
  unfold resL
  rw [e2]
  simpa using h2
/-- What is to hold where a function ends. -/
def endQ (P : Program) (fn : Func) (K : Value → Hp → Prop) : Post
  | .normal, l, h => resW P fn.results.toList l h [] K
  | .ret, l, h => resW P fn.results.toList l h [] K
  | _, _, _ => False
/-- The first frame. -/
def frameL (args : List Value) (n : Nat) : List Value := args ++ List.replicate (n - args.length) undef
def Fits (P : Program) (f : FuncId) : Prop := ∀ args w, (callFunc f args).run P w = .ok (.enter f args) w

theorem spec_of_awp {P : Program} {f : FuncId} {fn : Func} {c : Code} {args : List Value} {h : Hp} {K : Value → Hp → Prop} {pl : Nat → Plan} {cut : Nat → Bool} {tm : Nat → List Value} {Γ : Inv}
    (hm : P.follows .mixedOrders = true) (hf : P.funcs[f]? = some fn) (hb : fn.body = some c) (hfit : Fits P f) (hp' : plansOk P pl c = true) (hn : args.length ≤ fn.ntmps)
    (H : allP (obls P pl cut tm Γ 1 [] c (endQ P fn K) ++ [awp P pl cut tm Γ 1 [] c (endQ P fn K) (frameL args fn.ntmps) h])) : Spec P f args.toArray h K := by
  replace H := allP_append.1 H
  refine ⟨hfit _, fun w hw => ?_⟩
  subst hw
  refine calls_of_wp hf hb ?_
  have hl : (args.toArray ++ Array.replicate (fn.ntmps - args.toArray.size) undef).toList = frameL args fn.ntmps := by simp [frameL]
  have hsz : (args.toArray ++ Array.replicate (fn.ntmps - args.toArray.size) undef).size = fn.ntmps := by simp; omega
  refine wp_mono (awp_sound (w0 := w) hm c 1 [] (endQ P fn K) { tmps := args.toArray ++ Array.replicate (fn.ntmps - args.toArray.size) undef, defers := [] } w hp' H.1 rfl hsz (.refl w) (by rw [hl]; exact H.2)) ?_
  intro e a w' hq
  have fin : a.defers = [] ∧ a.tmps.size = fn.ntmps ∧ Same w w' ∧ resL P fn a.tmps.toList (hp w') K → bodyPost P fn (fun e w' => ∃ v, e = .returned v ∧ K v (hp w') ∧ Same w w') .ret a w' := by
    rintro ⟨hd, _, hS, hr⟩
    unfold resL at hr
    split at hr
    · rename_i v hv
      refine ⟨hd, v, rd_sound P _ _ _ (by simpa using hv), v, rfl, hr, hS⟩
    · exact hr.elim
  cases e with
  | normal => exact fin ⟨hq.1, hq.2.1, hq.2.2.1, resW_sound hq.2.2.2⟩
  | ret => exact fin ⟨hq.1, hq.2.1, hq.2.2.1, resW_sound hq.2.2.2⟩
  | exit id => exact hq.2.2.2.elim
  | goto l => exact hq.elim
  | panic c => exact hq.elim
  | outgrown => exact hq.elim

end Go.H
namespace Go.H
theorem fits_of {P : Program} {f : FuncId} {fn : Func} (hf : P.funcs[f]? = some fn) (hb : fn.body.isNone = false) (hn : (fn.name == "runtime.NumGoroutine") = false) : Fits P f := by
  intro args w
  unfold callFunc
  simp only [Bind.bind, Sem.bind, program, Sem.run, hf, hn, hb, Bool.false_eq_true, if_false, Pure.pure]
end Go.H
namespace Go.H
/-! ### Words of the printed conditions -/
def bIf (b : Bool) (A B : Prop) : Prop :=
  match b with
  | true => A
  | false => B
def sShl (k : IntKind) (x y : Int) : Int := k.wrap (x * 2 ^ (min y.toNat k.bits))
def sShr (k : IntKind) (x y : Int) : Int := x.fdiv (2 ^ (min y.toNat k.bits))
def bAnd (k : IntKind) (x y : Int) : Int := k.wrap ((BitVec.ofInt k.bits x &&& BitVec.ofInt k.bits y).toNat)
def bOr (k : IntKind) (x y : Int) : Int := k.wrap ((BitVec.ofInt k.bits x ||| BitVec.ofInt k.bits y).toNat)
def bXor (k : IntKind) (x y : Int) : Int := k.wrap ((BitVec.ofInt k.bits x ^^^ BitVec.ofInt k.bits y).toNat)
def bAndNot (k : IntKind) (x y : Int) : Int := k.wrap ((BitVec.ofInt k.bits x &&& ~~~BitVec.ofInt k.bits y).toNat)
def bNot (k : IntKind) (x : Int) : Int := bXor k (if k.signed then -1 else k.max) x
def mnI (x y : Int) : Int := if y < x then y else x
def mxI (x y : Int) : Int := if y > x then y else x
def strEq (x y : ByteArray) : Bool := x.toList == y.toList
def strLt (x y : ByteArray) : Bool := Op.bytesLess x.toList y.toList
end Go.H
