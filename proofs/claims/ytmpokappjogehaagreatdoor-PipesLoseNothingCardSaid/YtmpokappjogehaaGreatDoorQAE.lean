/- Steps of the proof of LawPipesLoseNothing: contracts of the functions that the law reaches, for every world that holds what each of them asks. -/
import Derived.Test.YtmpokappjogehaaGreatDoorQAD
import Derived.Laws.StructEq
set_option linter.unusedVariables false
set_option linter.unusedSimpArgs false
namespace Go.Proofs.YtmpokappjogehaaGreatDoor
namespace Ev
open Go Go.RowKit

/-! ### Numbers -/
theorem ltF_eq (a b : Int) : ltF a b = decide (a < b) := by
  cases a <;> cases b <;> simp only [ltF]
  · rename_i x y
    rw [Bool.eq_iff_iff]; simp [Nat.blt_eq]
  · rename_i x y
    rw [eq_comm, decide_eq_false_iff_not]; simp; omega
  · rename_i x y
    rw [eq_comm, decide_eq_true_iff]; simp; omega
  · rename_i x y
    rw [Bool.eq_iff_iff]; simp [Nat.blt_eq]; omega
theorem eqF_eq (a b : Int) : eqF a b = (a == b) := by
  cases a <;> cases b <;> simp only [eqF]
  · rename_i x y
    rw [Bool.eq_iff_iff, Nat.beq_eq, beq_iff_eq]
    exact ⟨fun h => by rw [h], fun h => by injection h⟩
  · rw [eq_comm, beq_eq_false_iff_ne]; intro h; cases h
  · rw [eq_comm, beq_eq_false_iff_ne]; intro h; cases h
  · rename_i x y
    rw [Bool.eq_iff_iff, Nat.beq_eq, beq_iff_eq]
    exact ⟨fun h => by rw [h], fun h => by injection h⟩
theorem leF_eq (a b : Int) : leF a b = decide (a ≤ b) := by
  unfold leF
  rw [ltF_eq]
  by_cases h : b < a
  · rw [decide_eq_true h, decide_eq_false (by omega)]; rfl
  · rw [decide_eq_false h, decide_eq_true (by omega)]; rfl
def kb : IntKind → Option Nat
  | .i64 => some 63
  | .u8 => some 8
  | .u32 => some 32
  | .u64 => some 64
  | _ => none
theorem rangeOk_nat {k : IntKind} {n : Nat} (h : rangeOk k (.ofNat n) = true) : ∃ b, kb k = some b ∧ n < 2 ^ b := by
  cases k <;> simp only [rangeOk, Bool.false_eq_true] at h
  · exact ⟨63, rfl, by have := Nat.le_of_ble_eq_true h; omega⟩
  · exact ⟨8, rfl, by have := Nat.le_of_ble_eq_true h; omega⟩
  · exact ⟨32, rfl, by have := Nat.le_of_ble_eq_true h; omega⟩
  · exact ⟨64, rfl, by have := Nat.le_of_ble_eq_true h; omega⟩
theorem wrap_nat {k : IntKind} {n b : Nat} (hb : kb k = some b) (h : n < 2 ^ b) : k.wrap (n : Int) = (n : Int) := by
  cases k <;> simp only [kb, Option.some.injEq, reduceCtorEq] at hb <;> subst hb
  · rw [IntWalk.i64_in]; omega
  · simp only [IntKind.wrap, IntKind.bits, IntKind.signed]; simp only [Bool.false_and, Bool.false_eq_true, if_false]; omega
  · simp only [IntKind.wrap, IntKind.bits, IntKind.signed]; simp only [Bool.false_and, Bool.false_eq_true, if_false]; omega
  · simp only [IntKind.wrap, IntKind.bits, IntKind.signed]; simp only [Bool.false_and, Bool.false_eq_true, if_false]; omega
theorem rangeOk_wrap {k : IntKind} {n : Int} (h : rangeOk k n = true) : k.wrap n = n := by
  cases n with
  | ofNat n =>
    obtain ⟨b, h1, h2⟩ := rangeOk_nat h
    exact wrap_nat h1 h2
  | negSucc n =>
    cases k <;> simp only [rangeOk, Bool.false_eq_true] at h
    have := Nat.le_of_ble_eq_true h
    rw [IntWalk.i64_in]
    omega
theorem wrapF_eq (k : IntKind) (n : Int) : wrapF k n = k.wrap n := by
  unfold wrapF
  cases h : rangeOk k n with
  | true => exact (rangeOk_wrap h).symm
  | false => rfl
theorem kb_bits {k : IntKind} {b : Nat} (h : kb k = some b) : b ≤ k.bits := by
  cases k <;> simp only [kb, Option.some.injEq, reduceCtorEq] at h <;> subst h <;> decide
section
variable {P : Program} {σ : Sg} {ρ : Nat → Value}
theorem bits_of {k : IntKind} {x b : Nat} (hb : kb k = some b) (h : x < 2 ^ b) : (BitVec.ofInt k.bits (x : Int)).toNat = x := by
  have h1 : 2 ^ b ≤ 2 ^ k.bits := Nat.pow_le_pow_right (by omega) (kb_bits hb)
  rw [BitVec.ofInt_natCast, BitVec.toNat_ofNat, Nat.mod_eq_of_lt (by omega)]
theorem intOp_sound {op : BinOp} {k : IntKind} {a b : Int} {e : EV} (h : intOp op k a b = some e) (t : TypeId) (w : World) :
    ∃ v, e.conc σ ρ = some v ∧ (binOp op t (.int k a) (.int k b)).run P w = .ok v w := by
  have bitCase : ∀ (x y n : Nat), rangeOk k (.ofNat x) = true → rangeOk k (.ofNat y) = true → natOp op x y = some n →
      (∀ b, kb k = some b → x < 2 ^ b → y < 2 ^ b → n < 2 ^ b) → (op = .and ∨ op = .or ∨ op = .xor) →
      (binOp op t (.int k (.ofNat x)) (.int k (.ofNat y))).run P w = .ok (.int k (.ofNat n)) w := by
    intro x y n hx hy hn hlt hop
    obtain ⟨b, hb, hxb⟩ := rangeOk_nat hx
    obtain ⟨b', hb', hyb⟩ := rangeOk_nat hy
    obtain rfl : b = b' := Option.some.inj (hb.symm.trans hb')
    have hw := wrap_nat hb (hlt b hb hxb hyb)
    have e1 := bits_of hb hxb
    have e2 := bits_of hb hyb
    rcases hop with rfl | rfl | rfl
    all_goals
      simp only [natOp, Option.some.injEq] at hn
      subst hn
      simp only [binOp, ne_eq, not_true_eq_false, if_false, Op.intBits, Sem.run_pure, BitVec.toNat_and, BitVec.toNat_or, BitVec.toNat_xor]
      have e1' : (BitVec.ofInt k.bits (Int.ofNat x)).toNat = x := e1
      have e2' : (BitVec.ofInt k.bits (Int.ofNat y)).toNat = y := e2
      rw [e1', e2', hw]
      rfl
  cases op <;> simp only [intOp, reduceCtorEq] at h
  case add => injection h with h; subst h; exact ⟨_, rfl, by simp [binOp, Op.intArith, wrapF_eq]⟩
  case sub => injection h with h; subst h; exact ⟨_, rfl, by simp [binOp, Op.intArith, wrapF_eq]⟩
  case mul => injection h with h; subst h; exact ⟨_, rfl, by simp [binOp, Op.intArith, wrapF_eq]⟩
  case quo =>
    split at h
    · rename_i x y
      injection h with h; subst h
      refine ⟨_, rfl, ?_⟩
      have hne : ¬ Int.ofNat (y + 1) = 0 := by simp; omega
      simp only [binOp, ne_eq, not_true_eq_false, if_false, Op.intDiv, hne, Sem.run_pure, wrapF_eq]
      rfl
    · cases h
  case rem =>
    split at h
    · rename_i x y
      injection h with h; subst h
      refine ⟨_, rfl, ?_⟩
      have hne : ¬ Int.ofNat (y + 1) = 0 := by simp; omega
      simp only [binOp, ne_eq, not_true_eq_false, if_false, Op.intDiv, hne, Sem.run_pure]
      rfl
    · cases h
  case and =>
    cases a with
    | negSucc x => cases h
    | ofNat x =>
      cases b with
      | negSucc y => cases h
      | ofNat y =>
        simp only at h
        cases hr : (rangeOk k (Int.ofNat x) && rangeOk k (Int.ofNat y)) with
        | false => rw [hr] at h; cases h
        | true =>
          rw [hr] at h
          rw [Bool.and_eq_true] at hr
          simp only [natOp, Option.map_some, Option.some.injEq] at h
          subst h
          exact ⟨_, rfl, bitCase x y _ hr.1 hr.2 rfl (fun b _ h1 _ => Nat.lt_of_le_of_lt Nat.and_le_left h1) (.inl rfl)⟩
  case or =>
    cases a with
    | negSucc x => cases h
    | ofNat x =>
      cases b with
      | negSucc y => cases h
      | ofNat y =>
        simp only at h
        cases hr : (rangeOk k (Int.ofNat x) && rangeOk k (Int.ofNat y)) with
        | false => rw [hr] at h; cases h
        | true =>
          rw [hr] at h
          rw [Bool.and_eq_true] at hr
          simp only [natOp, Option.map_some, Option.some.injEq] at h
          subst h
          exact ⟨_, rfl, bitCase x y _ hr.1 hr.2 rfl (fun b _ h1 h2 => Nat.or_lt_two_pow h1 h2) (.inr (.inl rfl))⟩
  case xor =>
    cases a with
    | negSucc x => cases h
    | ofNat x =>
      cases b with
      | negSucc y => cases h
      | ofNat y =>
        simp only at h
        cases hr : (rangeOk k (Int.ofNat x) && rangeOk k (Int.ofNat y)) with
        | false => rw [hr] at h; cases h
        | true =>
          rw [hr] at h
          rw [Bool.and_eq_true] at hr
          simp only [natOp, Option.map_some, Option.some.injEq] at h
          subst h
          exact ⟨_, rfl, bitCase x y _ hr.1 hr.2 rfl (fun b _ h1 h2 => Nat.xor_lt_two_pow h1 h2) (.inr (.inr rfl))⟩
  case eql => injection h with h; subst h; exact ⟨_, rfl, by simp [binOp, Op.intCmp, eqF_eq]⟩
  case neq => injection h with h; subst h; exact ⟨_, rfl, by simp [binOp, Op.intCmp, eqF_eq, bne]⟩
  case lss => injection h with h; subst h; exact ⟨_, rfl, by simp [binOp, Op.intCmp, ltF_eq]⟩
  case leq => injection h with h; subst h; exact ⟨_, rfl, by simp [binOp, Op.intCmp, leF_eq]⟩
  case gtr => injection h with h; subst h; exact ⟨_, rfl, by simp [binOp, Op.intCmp, ltF_eq]⟩
  case geq => injection h with h; subst h; exact ⟨_, rfl, by simp [binOp, Op.intCmp, leF_eq]⟩
theorem shOp_sound {op : BinOp} {k k' : IntKind} {a b : Int} {e : EV} (h : shOp op k a b = some e) (t : TypeId) (w : World) :
    ∃ v, e.conc σ ρ = some v ∧ (binOp op t (.int k a) (.int k' b)).run P w = .ok v w := by
  unfold shOp at h
  split at h
  · rename_i x y
    split at h
    · rename_i hy
      have hy' := Nat.le_of_ble_eq_true hy
      have hneg : ¬ Int.ofNat y < 0 := by simp
      have hm : min (Int.ofNat y).toNat k.bits = y := Nat.min_eq_left hy'
      split at h
      · injection h with h; subst h
        refine ⟨_, rfl, ?_⟩
        simp only [binOp, Op.shift, hneg, if_false, hm, Sem.run_pure, wrapF_eq]
        rw [show Int.ofNat x * 2 ^ y = Int.ofNat (x * 2 ^ y) by simp]
      · injection h with h; subst h
        refine ⟨_, rfl, ?_⟩
        simp only [binOp, Op.shift, hneg, if_false, hm, Sem.run_pure]
        rw [show (Int.ofNat x).fdiv (2 ^ y) = Int.ofNat (x / 2 ^ y) by
          have : (2 : Int) ^ y = ((2 ^ y : Nat) : Int) := by simp
          rw [this]
          exact (Int.ofNat_fdiv x (2 ^ y)).symm]
      · cases h
    · cases h
  · cases h
theorem strOp_sound {op : BinOp} {a b : Str} {e : EV} (h : strOp op a b = some e) (t : TypeId) (w : World) :
    ∃ v, e.conc σ ρ = some v ∧ (binOp op t (.string a.ba) (.string b.ba)).run P w = .ok v w := by
  cases op <;> simp only [strOp, reduceCtorEq] at h
  case add =>
    split at h
    · rename_i hl
      injection h with h; subst h
      have hl' := Nat.le_of_ble_eq_true hl
      refine ⟨_, rfl, ?_⟩
      have hn : ¬ ((a.ba.size + b.ba.size : Nat) : Int) > IntKind.i64.max := by
        rw [Str.ba_size, Str.ba_size]
        show ¬ _ > (9223372036854775807 : Int)
        omega
      simp only [binOp, Op.stringOp, hn, if_false, Sem.run_pure, Str.cat_ba]
    · cases h
  case eql => injection h with h; subst h; exact ⟨_, rfl, by simp [binOp, Op.stringOp, Str.beq_ba]⟩
  case neq => injection h with h; subst h; exact ⟨_, rfl, by simp [binOp, Op.stringOp, Str.beq_ba]⟩
  all_goals
    injection h with h; subst h
    have ea : bytesN a.len a.num = a.ba.toList := by rw [ba_toList, Str.ba_l]; rfl
    have eb : bytesN b.len b.num = b.ba.toList := by rw [ba_toList, Str.ba_l]; rfl
    exact ⟨_, rfl, by simp [binOp, Op.stringOp, Str.beq_ba, ea, eb]⟩

/-! ### Equality -/
theorem symEq_false {lo hi len : Nat} {b : Bool} (h : symEq lo hi len = some b) {s t : ByteArray} (hs : s.size = len) (h1 : lo ≤ t.size) (h2 : t.size ≤ hi) : b = false ∧ (s.toList == t.toList) = false := by
  unfold symEq at h
  cases hc : (Nat.blt len lo || Nat.blt hi len) with
  | false => rw [hc] at h; cases h
  | true =>
    rw [hc] at h
    simp only [cond_true, Option.some.injEq] at h
    refine ⟨h.symm, ?_⟩
    rw [beq_eq_false_iff_ne]
    intro e
    have : s.size = t.size := by
      have h3 : s.toList.length = t.toList.length := by rw [e]
      rw [ba_toList, ba_toList, Array.length_toList, Array.length_toList] at h3
      exact h3
    simp only [Bool.or_eq_true, Nat.blt_eq] at hc
    omega
theorem szOf_und {t : TypeId} {s : Nat} (h : szOf P t = some s) : (P.underlying t).isSome = true := by
  unfold szOf at h
  cases hu : P.underlying t with
  | none => rw [hu] at h; cases h
  | some d => rfl
theorem szOf_info {t : TypeId} {s : Nat} (h : szOf P t = some s) : ∃ i, P.info? t = some i ∧ i.size = s := by
  unfold szOf at h
  split at h
  · cases hi : P.info? t with
    | none => rw [hi] at h; cases h
    | some i => rw [hi] at h; simp only [Option.map_some, Option.some.injEq] at h; exact ⟨i, rfl, h⟩
  · cases h
theorem partOf_sound {b : Bool} {sz off : Nat} {cs : List EV} {e : EV} {vs : List Value} {t : TypeId} (hb : aggOf P t = b) (hs : szOf P t = some sz) (h : partOf b sz off cs = some e) (hc : EV.concs σ ρ cs = some vs) (hu : (P.underlying t).isSome = true) (w : World) :
    ∃ v, e.conc σ ρ = some v ∧ (part t vs.toArray off).run P w = .ok v w := by
  obtain ⟨d, hd⟩ := Option.isSome_iff_exists.1 hu
  have ha : (isAgg t).run P w = .ok b w := by
    unfold isAgg
    rw [Sem.run_bind, run_underlying hd, Result.andThen_ok]
    unfold aggOf at hb
    rw [hd] at hb
    cases d <;> simp at hb <;> subst hb <;> rfl
  have hz : (sizeOf t).run P w = .ok sz w := by
    obtain ⟨i, hi, hs⟩ := szOf_info hs
    simp [sizeOf, typeInfo, hi, hs]
  cases b with
  | true =>
    unfold partOf at h
    cases h1 : takeN sz (cs.drop off) with
    | none => simp [h1] at h
    | some l =>
      simp only [h1, Option.map_some, Option.some.injEq] at h
      subst h
      obtain ⟨h2, h3⟩ := takeN_concs (concs_drop off hc) h1
      refine ⟨.agg ((vs.drop off).take sz).toArray, by simp only [EV.conc, h2], ?_⟩
      simp only [part, Sem.run_bind, ha, Result.andThen_ok, if_true, hz, Sem.run_pure]
      congr 2
      apply Array.ext'
      simp [List.extract_eq_take_drop]
  | false =>
    unfold partOf at h
    obtain ⟨v, h1, h2⟩ := concs_get hc off e h
    refine ⟨v, h2, ?_⟩
    simp only [part, Sem.run_bind, ha, Result.andThen_ok, Bool.false_eq_true, if_false]
    rw [List.getElem?_toArray, h1]
    rfl
theorem isSome_of_eqIn {d : Nat} {t : TypeId} {x y : EV} {b : Bool} (h : eqIn P d t x y = some b) : (P.underlying t).isSome = true := by
  cases d with
  | zero => simp [eqIn] at h
  | succ d =>
    simp only [eqIn] at h
    cases hu : P.underlying t with
    | none => rw [hu] at h; cases h
    | some u => rfl
mutual
theorem eqIn_sound : ∀ (d : Nat) {t : TypeId} {x y : EV} {b : Bool} {a c : Value}, eqIn P d t x y = some b → x.conc σ ρ = some a → y.conc σ ρ = some c → ∀ (D : Nat) (w : World), d ≤ D →
    (Op.equalIn D t a c).run P w = .ok b w
  | 0, _, _, _, _, _, _, h, _, _, _, _, _ => by simp [eqIn] at h
  | d + 1, t, x, y, b, a, c, h, hx, hy, 0, _, hD => by omega
  | d + 1, t, x, y, b, a, c, h, hx, hy, D + 1, w, hD => by
    have hD' : d ≤ D := by omega
    simp only [eqIn] at h
    cases hu : P.underlying t with
    | none => rw [hu] at h; cases h
    | some u =>
      rw [hu] at h
      cases u <;> simp only [reduceCtorEq] at h
      case bool =>
        split at h
        · simp only [EV.conc, Option.some.injEq] at hx hy h
          subst hx hy h
          exact run_equalIn_bool' w D t _ _ hu
        · cases h
      case int k0 =>
        split at h
        · rename_i k1 n1 k2 n2
          split at h
          · rename_i hk
            subst hk
            simp only [EV.conc, Option.some.injEq] at hx hy h
            subst hx hy h
            rw [eqF_eq]
            exact run_equalIn_int w D t _ _ _ _ hu
          · cases h
        · cases h
      case string =>
        split at h
        · simp only [EV.conc, Option.some.injEq] at hx hy h
          subst hx hy h
          rw [Str.beq_ba]
          exact run_equalIn_string w D t _ _ hu
        · rename_i s i lo hi
          simp only [EV.conc] at hx hy
          split at hy
          · rename_i bb hbb
            split at hy
            · rename_i hr
              injection hx with hx; injection hy with hy
              subst hx hy
              obtain ⟨h1, h2⟩ := symEq_false h (s := s.ba) (t := bb) (Str.ba_size s) hr.1 hr.2
              subst h1
              rw [run_equalIn_string w D t _ _ hu, h2]
            · cases hy
          · cases hy
        · rename_i i lo hi s
          simp only [EV.conc] at hx hy
          split at hx
          · rename_i bb hbb
            split at hx
            · rename_i hr
              injection hx with hx; injection hy with hy
              subst hx hy
              obtain ⟨h1, h2⟩ := symEq_false h (s := s.ba) (t := bb) (Str.ba_size s) hr.1 hr.2
              subst h1
              rw [run_equalIn_string w D t _ _ hu, show (bb.toList == s.ba.toList) = (s.ba.toList == bb.toList) from Bool.beq_comm .. , h2]
            · cases hx
          · cases hx
        · cases h
      case pointer e0 =>
        split at h
        · simp only [EV.conc, Option.some.injEq] at hx hy h
          subst hx hy h
          simp [Op.equalIn, run_underlying hu]
        · simp only [EV.conc, Option.some.injEq] at hx hy h
          split at hy
          · injection hy with hy
            subst hx hy h
            simp [Op.equalIn, run_underlying hu]
          · cases hy
        · simp only [EV.conc, Option.some.injEq] at hx hy h
          split at hx
          · injection hx with hx
            subst hx hy h
            simp [Op.equalIn, run_underlying hu]
          · cases hx
        · cases h
      case slice e0 =>
        split at h
        · simp only [EV.conc, Option.some.injEq] at hx hy h
          subst hx hy h
          simp [Op.equalIn, run_underlying hu]
        · simp only [EV.conc, Option.some.injEq] at hx hy h
          split at hy
          · split at hy
            · injection hy with hy
              subst hx hy h
              simp [Op.equalIn, run_underlying hu]
            · cases hy
          · cases hy
        · simp only [EV.conc, Option.some.injEq] at hx hy h
          split at hx
          · split at hx
            · injection hx with hx
              subst hx hy h
              simp [Op.equalIn, run_underlying hu]
            · cases hx
          · cases hx
        · cases h
      case map k0 e0 =>
        split at h
        · simp only [EV.conc, Option.some.injEq] at hx hy h
          subst hx hy h
          simp [Op.equalIn, run_underlying hu]
        · simp only [EV.conc, Option.some.injEq] at hx hy h
          split at hy
          · injection hy with hy
            subst hx hy h
            simp [Op.equalIn, run_underlying hu]
          · cases hy
        · simp only [EV.conc, Option.some.injEq] at hx hy h
          split at hx
          · injection hx with hx
            subst hx hy h
            simp [Op.equalIn, run_underlying hu]
          · cases hx
        · cases h
      case func p0 r0 v0 =>
        split at h
        · simp only [EV.conc, Option.some.injEq] at hx hy h
          subst hx hy h
          simp [Op.equalIn, run_underlying hu]
        · simp only [EV.conc, Option.some.injEq] at hx hy h
          split at hy
          · injection hy with hy
            subst hx hy h
            simp [Op.equalIn, run_underlying hu]
          · cases hy
        · simp only [EV.conc, Option.some.injEq] at hx hy h
          split at hx
          · injection hx with hx
            subst hx hy h
            simp [Op.equalIn, run_underlying hu]
          · cases hx
        · cases h
      case struct fs =>
        split at h
        · rename_i xs ys
          split at h
          · rename_i hst
            simp only [EV.conc] at hx hy
            cases h1 : EV.concs σ ρ xs with
            | none => rw [h1] at hx; cases hx
            | some us =>
              cases h2 : EV.concs σ ρ ys with
              | none => rw [h2] at hy; cases hy
              | some vs =>
                rw [h1] at hx; rw [h2] at hy
                injection hx with hx; injection hy with hy
                subst hx hy
                have hf : P.fieldsOf t = fs := by unfold Program.fieldsOf; rw [hu]
                rw [run_equalIn_struct w D t _ _ (by rw [hf]; exact hu) hst, hf]
                exact eqFs_sound d h h1 h2 D w hD'
          · cases h
        · cases h
theorem eqFs_sound : ∀ (d : Nat) {fs : List Field} {xs ys : List EV} {b : Bool} {us vs : List Value}, eqFs P d fs xs ys = some b → EV.concs σ ρ xs = some us → EV.concs σ ρ ys = some vs → ∀ (D : Nat) (w : World), d ≤ D →
    (Op.eqFields D us.toArray vs.toArray fs).run P w = .ok b w
  | 0, _, _, _, _, _, _, h, _, _, _, _, _ => by simp [eqFs] at h
  | d + 1, [], xs, ys, b, us, vs, h, _, _, D, w, _ => by
    simp only [eqFs, Option.some.injEq] at h
    subst h
    rfl
  | d + 1, f :: fs, xs, ys, b, us, vs, h, hx, hy, D, w, hD => by
    simp only [eqFs] at h
    split at h
    · cases h
    · rename_i hn
      have hn' : f.name ≠ "_" := by simpa using hn
      cases hs : szOf P f.type with
      | none => rw [hs] at h; cases h
      | some s =>
        rw [hs] at h
        cases h1 : partOf (aggOf P f.type) s f.offset xs with
        | none => simp [h1] at h
        | some a =>
          cases h2 : partOf (aggOf P f.type) s f.offset ys with
          | none => simp [h1, h2] at h
          | some c =>
            simp only [h1, h2] at h
            cases h3 : eqIn P d f.type a c with
            | none => rw [h3] at h; cases h
            | some r =>
              obtain ⟨va, h4, h5⟩ := partOf_sound rfl hs h1 hx (isSome_of_eqIn h3) w
              obtain ⟨vc, h6, h7⟩ := partOf_sound rfl hs h2 hy (isSome_of_eqIn h3) w
              have h8 := eqIn_sound d h3 h4 h6 D w (by omega)
              rw [h3] at h
              simp only [Op.eqFields, if_pos hn', Sem.run_bind, h5, h7, h8, Result.andThen_ok]
              cases r with
              | true =>
                simp only [Bool.not_true, Bool.false_eq_true, if_false]
                exact eqFs_sound d h hx hy D w (by omega)
              | false =>
                simp only [Option.some.injEq] at h
                subst h
                rfl
end
end
end Ev
end Go.Proofs.YtmpokappjogehaaGreatDoor

namespace Go.Proofs.YtmpokappjogehaaGreatDoor
namespace Ev
open Go Go.RowKit

section
variable {P : Program} {σ : Sg} {ρ : Nat → Value}
theorem isOne_of_conc {e : EV} {v : Value} (h : e.conc σ ρ = some v) (ho : e.one = true) : v.oneCell' = true := by
  cases e <;> simp only [EV.one, Bool.false_eq_true] at ho <;> simp only [EV.conc, Option.some.injEq] at h
  all_goals first
    | (subst h; rfl)
    | (split at h <;> first
        | (cases h; done)
        | (injection h with h; subst h; rfl)
        | (split at h <;> first | (cases h; done) | (injection h with h; subst h; rfl)))
theorem not_nilIface {e : EV} {v : Value} (h : e.conc σ ρ = some v) : v ≠ .nilIface := by
  intro hv
  subst hv
  cases e <;> simp only [EV.conc, Option.some.injEq, reduceCtorEq] at h
  all_goals (split at h <;> first
    | (cases h; done)
    | (split at h <;> first | (cases h; done)))
theorem agg_conc {e : EV} {cs : Array Value} (h : e.conc σ ρ = some (.agg cs)) : ∃ l, e = .agg l := by
  cases e <;> simp only [EV.conc, Option.some.injEq, reduceCtorEq] at h
  case agg l => exact ⟨l, rfl⟩
  all_goals (split at h <;> first
    | (cases h; done)
    | (split at h <;> first | (cases h; done)))
theorem eqGuard_sound {op : BinOp} {t : TypeId} {x y : EV} {X Y : Operand} {a c : Value} (hg : guardOk P t x y = true) (hx : x.conc σ ρ = some a) (hy : y.conc σ ρ = some c) (w : World) :
    (eqGuard op t X Y a c).run P w = .ok () w := by
  by_cases hagg : (∃ xs, a = .agg xs) ∧ (∃ ys, c = .agg ys)
  · obtain ⟨⟨xs, rfl⟩, ⟨ys, rfl⟩⟩ := hagg
    obtain ⟨l, rfl⟩ := agg_conc hx
    obtain ⟨l', rfl⟩ := agg_conc hy
    simp only [guardOk, Bool.not_eq_true'] at hg
    exact run_eqGuard_agg w op t X Y xs ys hg
  · have fin : ∀ (c1 : Prop) [Decidable c1] (f g : Sem Unit), ¬ c1 → (if c1 then g else f).run P w = f.run P w := fun c1 _ f g h => by rw [if_neg h]
    cases op <;> first
      | rfl
      | (unfold eqGuard
         split
         · exact absurd rfl (by assumption)
         · split
           · exact absurd rfl (not_nilIface hx)
           · exact absurd ⟨⟨_, rfl⟩, ⟨_, rfl⟩⟩ hagg
           · rfl)
      | (simp only [eqGuard, Bool.not_true, Bool.false_eq_true, if_false, Sem.run_bind, Sem.run_pure, Result.andThen_ok]
         split
         · exact absurd rfl (not_nilIface hx)
         · exact absurd ⟨⟨_, rfl⟩, ⟨_, rfl⟩⟩ hagg
         · rfl)
theorem eqOp_sound {op : BinOp} {t : TypeId} {x y : EV} {e : EV} {X Y : Operand} {a c : Value} (h : eqOp P op t x y = some e) (hx : x.conc σ ρ = some a) (hy : y.conc σ ρ = some c) (w : World)
    (hb : ∀ b : Bool, eqIn P 30 t x y = some b → (Op.equalIn 10000 t a c).run P w = .ok b w → (op = .eql → (binOp op t a c).run P w = .ok (.bool b) w) ∧ (op = .neq → (binOp op t a c).run P w = .ok (.bool (!b)) w)) :
    ∃ v, e.conc σ ρ = some v ∧ (do eqGuard op t X Y a c; binOp op t a c : Sem Value).run P w = .ok v w := by
  unfold eqOp at h
  cases hg : guardOk P t x y with
  | false => rw [hg] at h; cases h
  | true =>
    rw [hg] at h
    simp only [Bool.not_true, cond_false] at h
    have hgd := eqGuard_sound (op := op) (X := X) (Y := Y) hg hx hy w
    cases op <;> simp only [reduceCtorEq] at h
    case eql =>
      cases h1 : eqIn P 30 t x y with
      | none => rw [h1] at h; cases h
      | some b =>
        rw [h1] at h
        simp only [Option.map_some, Option.some.injEq] at h
        subst h
        have h2 := eqIn_sound 30 h1 hx hy 10000 w (by omega)
        exact ⟨_, rfl, by rw [Sem.run_bind, hgd, Result.andThen_ok]; exact (hb b h1 h2).1 rfl⟩
    case neq =>
      cases h1 : eqIn P 30 t x y with
      | none => rw [h1] at h; cases h
      | some b =>
        rw [h1] at h
        simp only [Option.map_some, Option.some.injEq] at h
        subst h
        have h2 := eqIn_sound 30 h1 hx hy 10000 w (by omega)
        exact ⟨_, rfl, by rw [Sem.run_bind, hgd, Result.andThen_ok]; exact (hb b h1 h2).2 rfl⟩
theorem binOp_other (op : BinOp) (t : TypeId) (a c : Value) (w : World) (h1 : ∀ k n, a ≠ .int k n) (h2 : ∀ s, a ≠ .string s) (h3 : ∀ k n, a ≠ .float k n) (h4 : ∀ k n m, a ≠ .complex k n m) (b : Bool) (hb : (Op.equalIn 10000 t a c).run P w = .ok b w) :
    (op = .eql → (binOp op t a c).run P w = .ok (.bool b) w) ∧ (op = .neq → (binOp op t a c).run P w = .ok (.bool (!b)) w) := by
  constructor
  · rintro rfl
    unfold binOp
    split <;> first
      | (rename_i h; exact absurd rfl (h1 _ _))
      | (exact absurd rfl (h1 _ _))
      | (exact absurd rfl (h2 _))
      | (exact absurd rfl (h3 _ _))
      | (exact absurd rfl (h4 _ _ _))
      | (simp only [Op.equal, Op.maxDepth, Sem.run_bind, hb, Result.andThen_ok]; rfl)
      | (simp_all; done)
  · rintro rfl
    unfold binOp
    split <;> first
      | (exact absurd rfl (h1 _ _))
      | (exact absurd rfl (h2 _))
      | (exact absurd rfl (h3 _ _))
      | (exact absurd rfl (h4 _ _ _))
      | (simp only [Op.equal, Op.maxDepth, Sem.run_bind, hb, Result.andThen_ok]; rfl)
      | (simp_all; done)
theorem binOp_string (op : BinOp) (t : TypeId) (s s' : ByteArray) (w : World) (hu : P.underlying t = some .string) (b : Bool) (hb : (Op.equalIn 10000 t (.string s) (.string s')).run P w = .ok b w) :
    (op = .eql → (binOp op t (.string s) (.string s')).run P w = .ok (.bool b) w) ∧ (op = .neq → (binOp op t (.string s) (.string s')).run P w = .ok (.bool (!b)) w) := by
  rw [run_equalIn_string w 9999 t s s' hu] at hb
  injection hb with hb
  subst hb
  constructor
  · rintro rfl; simp [binOp, Op.stringOp]
  · rintro rfl; simp [binOp, Op.stringOp]
theorem cmpB_sound {op : BinOp} {al ah bl bh x y : Int} {b : Bool} (h : cmpB op al ah bl bh = some b) (h1 : al ≤ x) (h2 : x ≤ ah) (h3 : bl ≤ y) (h4 : y ≤ bh) (k : IntKind) (t : TypeId) (w : World) :
    (binOp op t (.int k x) (.int k y)).run P w = .ok (.bool b) w := by
  have c2 : ∀ (p q : Bool), (bif p then some true else bif q then some false else none) = some b → (p = true ∧ b = true) ∨ (q = true ∧ b = false) := by
    intro p q h
    cases p <;> cases q <;> simp at h <;> simp [h]
  have c3 : ∀ (p q : Bool), (bif p then some false else bif q then some true else none) = some b → (p = true ∧ b = false) ∨ (q = true ∧ b = true) := by
    intro p q h
    cases p <;> cases q <;> simp at h <;> simp [h]
  cases op <;> simp only [cmpB, reduceCtorEq] at h
  case lss =>
    rcases c2 _ _ h with ⟨hp, rfl⟩ | ⟨hp, rfl⟩
    · rw [ltF_eq, decide_eq_true_eq] at hp; simp [binOp, Op.intCmp]; omega
    · rw [leF_eq, decide_eq_true_eq] at hp; simp [binOp, Op.intCmp]; omega
  case leq =>
    rcases c3 _ _ h with ⟨hp, rfl⟩ | ⟨hp, rfl⟩
    · rw [ltF_eq, decide_eq_true_eq] at hp; simp [binOp, Op.intCmp]; omega
    · rw [leF_eq, decide_eq_true_eq] at hp; simp [binOp, Op.intCmp]; omega
  case gtr =>
    rcases c2 _ _ h with ⟨hp, rfl⟩ | ⟨hp, rfl⟩
    · rw [ltF_eq, decide_eq_true_eq] at hp; simp [binOp, Op.intCmp]; omega
    · rw [leF_eq, decide_eq_true_eq] at hp; simp [binOp, Op.intCmp]; omega
  case geq =>
    rcases c3 _ _ h with ⟨hp, rfl⟩ | ⟨hp, rfl⟩
    · rw [ltF_eq, decide_eq_true_eq] at hp; simp [binOp, Op.intCmp]; omega
    · rw [leF_eq, decide_eq_true_eq] at hp; simp [binOp, Op.intCmp]; omega
  case eql =>
    rcases c3 _ _ h with ⟨hp, rfl⟩ | ⟨hp, rfl⟩
    · rw [Bool.or_eq_true, ltF_eq, ltF_eq, decide_eq_true_eq, decide_eq_true_eq] at hp; simp [binOp, Op.intCmp]; omega
    · simp only [Bool.and_eq_true, eqF_eq, beq_iff_eq] at hp; simp [binOp, Op.intCmp]; omega
  case neq =>
    rcases c2 _ _ h with ⟨hp, rfl⟩ | ⟨hp, rfl⟩
    · rw [Bool.or_eq_true, ltF_eq, ltF_eq, decide_eq_true_eq, decide_eq_true_eq] at hp; simp [binOp, Op.intCmp]; omega
    · simp only [Bool.and_eq_true, eqF_eq, beq_iff_eq] at hp; simp [binOp, Op.intCmp]; omega
theorem bounds_sound {e : EV} {k : IntKind} {lo hi : Int} {v : Value} (h : bounds e = some (k, lo, hi)) (hc : e.conc σ ρ = some v) : ∃ n, v = .int k n ∧ lo ≤ n ∧ n ≤ hi := by
  cases e <;> simp only [bounds, reduceCtorEq, Option.some.injEq, Prod.mk.injEq] at h
  case int k' n =>
    obtain ⟨rfl, rfl, rfl⟩ := h
    simp only [EV.conc, Option.some.injEq] at hc
    exact ⟨n, hc.symm, Int.le_refl _, Int.le_refl _⟩
  case sint k' i lo' hi' =>
    obtain ⟨rfl, rfl, rfl⟩ := h
    simp only [EV.conc] at hc
    split at hc
    · split at hc
      · rename_i hr
        injection hc with hc
        exact ⟨_, hc.symm, hr.1, hr.2⟩
      · cases hc
    · cases hc
  case slen i lo' hi' =>
    obtain ⟨rfl, rfl, rfl⟩ := h
    simp only [EV.conc] at hc
    split at hc
    · split at hc
      · rename_i hr
        injection hc with hc
        exact ⟨_, hc.symm, by simp; omega, by simp; omega⟩
      · cases hc
    · cases hc
theorem symb_shape {i lo hi : Nat} {v : Value} (h : (EV.sstr i lo hi).conc σ ρ = some v) : ∃ s, v = .string s ∧ lo ≤ s.size ∧ s.size ≤ hi := by
  simp only [EV.conc] at h
  split at h
  · split at h
    · rename_i hr
      injection h with h
      exact ⟨_, h.symm, hr.1, hr.2⟩
    · cases h
  · cases h
end
end Ev
end Go.Proofs.YtmpokappjogehaaGreatDoor

namespace Go.Proofs.YtmpokappjogehaaGreatDoor
namespace Ev
open Go Go.RowKit

section
variable {P : Program} {σ : Sg} {ρ : Nat → Value}
/-- The value of a binary operation, with its guard. -/
def RunB (P : Program) (op : BinOp) (t : TypeId) (X Y : Operand) (a c : Value) (w : World) (v : Value) : Prop := (do eqGuard op t X Y a c; binOp op t a c : Sem Value).run P w = .ok v w
theorem RunB.of {op : BinOp} {t : TypeId} {X Y : Operand} {a c : Value} {w : World} {v : Value} (hg : (eqGuard op t X Y a c).run P w = .ok () w) (h : (binOp op t a c).run P w = .ok v w) : RunB P op t X Y a c w v := by
  unfold RunB
  rw [Sem.run_bind, hg, Result.andThen_ok]
  exact h
theorem guard_int {op : BinOp} {t : TypeId} {X Y : Operand} {k k' : IntKind} {x y : Int} (w : World) : (eqGuard op t X Y (.int k x) (.int k' y)).run P w = .ok () w :=
  eqGuard_sound (σ := fun _ => none) (ρ := fun _ => .nilFunc) (x := .int k x) (y := .int k' y) rfl rfl rfl w
theorem guard_str {op : BinOp} {t : TypeId} {X Y : Operand} {s s' : ByteArray} (w : World) : (eqGuard op t X Y (.string s) (.string s')).run P w = .ok () w :=
  eqGuard_sound (σ := fun _ => none) (ρ := fun _ => .nilFunc) (x := .str (ofBytes s.data.toList 0 0)) (y := .str (ofBytes s'.data.toList 0 0)) rfl (by simp only [EV.conc, ofBytes_ba]) (by simp only [EV.conc, ofBytes_ba]) w
theorem str_shape {e : EV} {s : ByteArray} (h : e.conc σ ρ = some (.string s)) : (∃ z, e = .str z) ∨ ∃ i lo hi, e = .sstr i lo hi := by
  cases e <;> simp only [EV.conc, Option.some.injEq, reduceCtorEq] at h
  case str z => exact .inl ⟨z, rfl⟩
  case sstr i lo hi => exact .inr ⟨i, lo, hi, rfl⟩
  all_goals (split at h <;> first
    | (cases h; done)
    | (split at h <;> first | (cases h; done)))
theorem eqIn_str {d : Nat} {t : TypeId} {x y : EV} {b : Bool} {s : ByteArray} (h : eqIn P d t x y = some b) (hx : x.conc σ ρ = some (.string s)) : P.underlying t = some .string := by
  cases d with
  | zero => simp [eqIn] at h
  | succ d =>
    simp only [eqIn] at h
    cases hu : P.underlying t with
    | none => rw [hu] at h; cases h
    | some u =>
      rw [hu] at h
      rcases str_shape hx with ⟨z, rfl⟩ | ⟨i, lo, hi, rfl⟩
      · cases u <;> first | rfl | (simp only [reduceCtorEq] at h; done) | (cases y <;> simp only [reduceCtorEq] at h)
      · cases u <;> first | rfl | (simp only [reduceCtorEq] at h; done) | (cases y <;> simp only [reduceCtorEq] at h)
theorem eqOp_str {op : BinOp} {t : TypeId} {x y e : EV} {X Y : Operand} {s s' : ByteArray} (h : eqOp P op t x y = some e) (hx : x.conc σ ρ = some (.string s)) (hy : y.conc σ ρ = some (.string s')) (w : World) : ∃ v, e.conc σ ρ = some v ∧ RunB P op t X Y (.string s) (.string s') w v :=
  eqOp_sound h hx hy w fun b hi hb => binOp_string op t s s' w (eqIn_str hi hx) b hb
theorem no_float {e : EV} {a : Value} (h : e.conc σ ρ = some a) (hf : (∃ k n, a = .float k n) ∨ ∃ k n m, a = .complex k n m) : False := by
  rcases hf with ⟨k, n, rfl⟩ | ⟨k, n, m, rfl⟩
  · cases e <;> simp only [EV.conc, Option.some.injEq, reduceCtorEq] at h
    all_goals (split at h <;> first
      | (cases h; done)
      | (split at h <;> first | (cases h; done)))
  · cases e <;> simp only [EV.conc, Option.some.injEq, reduceCtorEq] at h
    all_goals (split at h <;> first
      | (cases h; done)
      | (split at h <;> first | (cases h; done)))
def NotNum (σ : Sg) (ρ : Nat → Value) (x : EV) : Prop := ∀ a, x.conc σ ρ = some a → (∀ k n, a ≠ .int k n) ∧ ∀ s, a ≠ .string s
theorem notNum_of {x : EV} (v : Value → Prop) (h : ∀ a, x.conc σ ρ = some a → v a) (hv : ∀ a, v a → (∀ k n, a ≠ .int k n) ∧ ∀ s, a ≠ .string s) : NotNum σ ρ x := fun a ha => hv a (h a ha)
def EqKind (σ : Sg) (ρ : Nat → Value) (x y : EV) : Prop :=
  (∃ k n k' n', x = .int k n ∧ y = .int k' n') ∨ ((∃ z, x = .str z) ∧ ∃ z, y = .str z) ∨ ((∃ z, x = .str z) ∧ ∃ i lo hi, y = .sstr i lo hi) ∨ ((∃ i lo hi, x = .sstr i lo hi) ∧ ∃ z, y = .str z) ∨ NotNum σ ρ x
theorem eqIn_kind {d : Nat} {t : TypeId} {x y : EV} {b : Bool} (h : eqIn P d t x y = some b) : EqKind σ ρ x y := by
  have nn : (∀ a, x.conc σ ρ = some a → (∀ k n, a ≠ .int k n) ∧ ∀ s, a ≠ .string s) → EqKind σ ρ x y := fun h => .inr (.inr (.inr (.inr h)))
  cases d with
  | zero => simp [eqIn] at h
  | succ d =>
    simp only [eqIn] at h
    cases hu : P.underlying t with
    | none => rw [hu] at h; cases h
    | some u =>
      rw [hu] at h
      cases u <;> simp only [reduceCtorEq] at h
      case int k0 =>
        split at h
        · exact .inl ⟨_, _, _, _, rfl, rfl⟩
        · cases h
      case string =>
        split at h
        · exact .inr (.inl ⟨⟨_, rfl⟩, ⟨_, rfl⟩⟩)
        · exact .inr (.inr (.inl ⟨⟨_, rfl⟩, ⟨_, _, _, rfl⟩⟩))
        · exact .inr (.inr (.inr (.inl ⟨⟨_, _, _, rfl⟩, ⟨_, rfl⟩⟩)))
        · cases h
      all_goals
        refine nn ?_
        split at h
        all_goals first
          | (cases h; done)
          | (intro a ha
             simp only [EV.conc, Option.some.injEq] at ha
             first
               | (subst ha; exact ⟨fun k n e => (by cases e), fun s e => (by cases e)⟩)
               | (split at ha
                  · first
                    | (injection ha with ha; subst ha; exact ⟨fun k n e => (by cases e), fun s e => (by cases e)⟩)
                    | (split at ha
                       · injection ha with ha; subst ha; exact ⟨fun k n e => (by cases e), fun s e => (by cases e)⟩
                       · cases ha)
                  · cases ha))
theorem binEv_sound {op : BinOp} {t : TypeId} {x y e : EV} {X Y : Operand} {a c : Value} (h : binEv P op t x y = some e) (hx : x.conc σ ρ = some a) (hy : y.conc σ ρ = some c) (w : World) : ∃ v, e.conc σ ρ = some v ∧ RunB P op t X Y a c w v := by
  have plain : eqOp P op t x y = some e → (∀ k n, x ≠ .int k n) ∨ (∀ k n, y ≠ .int k n) → ∃ v, e.conc σ ρ = some v ∧ RunB P op t X Y a c w v := fun h3 hni =>
    eqOp_sound h3 hx hy w fun b hi hb => by
      rcases eqIn_kind (σ := σ) (ρ := ρ) hi with ⟨k, n, k', n', rfl, rfl⟩ | ⟨⟨z, rfl⟩, ⟨z', rfl⟩⟩ | ⟨⟨z, rfl⟩, ⟨i, lo, hi', rfl⟩⟩ | ⟨⟨i, lo, hi', rfl⟩, ⟨z, rfl⟩⟩ | hn
      · rcases hni with hni | hni
        · exact absurd rfl (hni _ _)
        · exact absurd rfl (hni _ _)
      · simp only [EV.conc, Option.some.injEq] at hx hy
        subst hx hy
        exact binOp_string op t _ _ w (eqIn_str (σ := σ) (ρ := ρ) hi rfl) b hb
      · obtain ⟨s', rfl, _, _⟩ := symb_shape hy
        simp only [EV.conc, Option.some.injEq] at hx
        subst hx
        exact binOp_string op t _ _ w (eqIn_str (σ := σ) (ρ := ρ) hi rfl) b hb
      · have hx' := hx
        obtain ⟨s', rfl, _, _⟩ := symb_shape hx
        simp only [EV.conc, Option.some.injEq] at hy
        subst hy
        exact binOp_string op t _ _ w (eqIn_str hi hx') b hb
      · obtain ⟨h1, h2⟩ := hn a hx
        exact binOp_other op t a c w h1 h2 (fun k n e => no_float hx (.inl ⟨k, n, e⟩)) (fun k n m e => no_float hx (.inr ⟨k, n, m, e⟩)) b hb
  have sym : ∀ (_ : (match bounds x, bounds y with
    | some (k, al, ah), some (k', bl, bh) => if k = k' then (cmpB op al ah bl bh).map EV.bool else none
    | _, _ => none) = some e), ∃ v, e.conc σ ρ = some v ∧ RunB P op t X Y a c w v := fun h1 => by
    cases hbx : bounds x with
    | none => rw [hbx] at h1; cases h1
    | some p =>
      cases hby : bounds y with
      | none => rw [hbx, hby] at h1; cases h1
      | some q =>
        obtain ⟨k, al, ah⟩ := p
        obtain ⟨k', bl, bh⟩ := q
        rw [hbx, hby] at h1
        simp only at h1
        split at h1
        · rename_i hk
          subst hk
          cases hc : cmpB op al ah bl bh with
          | none => rw [hc] at h1; cases h1
          | some b =>
            rw [hc] at h1
            simp only [Option.map_some, Option.some.injEq] at h1
            subst h1
            obtain ⟨n, rfl, h2, h3⟩ := bounds_sound hbx hx
            obtain ⟨m, rfl, h4, h5⟩ := bounds_sound hby hy
            exact ⟨_, rfl, RunB.of (guard_int w) (cmpB_sound hc h2 h3 h4 h5 k t w)⟩
        · cases h1
  unfold binEv at h
  split at h
  · rename_i k n k' n'
    simp only [EV.conc, Option.some.injEq] at hx hy
    subst hx hy
    split at h
    · obtain ⟨v, h1, h2⟩ := shOp_sound (P := P) (σ := σ) (ρ := ρ) (k' := k') h t w
      exact ⟨v, h1, RunB.of (guard_int w) h2⟩
    · obtain ⟨v, h1, h2⟩ := shOp_sound (P := P) (σ := σ) (ρ := ρ) (k' := k') h t w
      exact ⟨v, h1, RunB.of (guard_int w) h2⟩
    · split at h
      · rename_i hk
        subst hk
        obtain ⟨v, h1, h2⟩ := intOp_sound (P := P) (σ := σ) (ρ := ρ) h t w
        exact ⟨v, h1, RunB.of (guard_int w) h2⟩
      · cases h
  · simp only [EV.conc, Option.some.injEq] at hx hy
    subst hx hy
    obtain ⟨v, h1, h2⟩ := strOp_sound (P := P) (σ := σ) (ρ := ρ) h t w
    exact ⟨v, h1, RunB.of (guard_str w) h2⟩
  · exact plain h (.inl fun k n e => by cases e)
  · exact plain h (.inr fun k n e => by cases e)
  · exact sym h
  · exact sym h
  · exact sym h
  · exact sym h
  · have hni : ∀ k n k' n', x = .int k n → y = .int k' n' → False := by assumption
    refine plain h ?_
    by_cases hxi : ∃ k n, x = .int k n
    · obtain ⟨k, n, rfl⟩ := hxi
      exact .inr fun k' n' e => hni k n k' n' rfl e
    · exact .inl fun k n e => hxi ⟨k, n, e⟩
theorem unEv_sound {op : UnOp} {x e : EV} {a : Value} (h : unEv op x = some e) (hx : x.conc σ ρ = some a) (w : World) : ∃ v, e.conc σ ρ = some v ∧ (Op.unary op a).run P w = .ok v w := by
  unfold unEv at h
  split at h
  · injection h with h; subst h
    simp only [EV.conc, Option.some.injEq] at hx
    subst hx
    exact ⟨_, rfl, rfl⟩
  · injection h with h; subst h
    simp only [EV.conc, Option.some.injEq] at hx
    subst hx
    exact ⟨_, rfl, by simp [Op.unary, Op.intArith, wrapF_eq]⟩
  · cases h
theorem sint_shape {k : IntKind} {i : Nat} {lo hi : Int} {v : Value} (h : (EV.sint k i lo hi).conc σ ρ = some v) : ∃ n k', ρ i = .int k' n ∧ v = .int k n ∧ lo ≤ n ∧ n ≤ hi := by
  simp only [EV.conc] at h
  split at h
  · rename_i k' n hr
    split at h
    · rename_i hc
      injection h with h
      exact ⟨n, k', hr, h.symm, hc.1, hc.2⟩
    · cases h
  · cases h
theorem rangeOk_iff (k : IntKind) (n : Int) : rangeOk k n = true ↔ (match k with
    | .i64 => -9223372036854775808 ≤ n ∧ n ≤ 9223372036854775807
    | .u8 => 0 ≤ n ∧ n ≤ 255
    | .u32 => 0 ≤ n ∧ n ≤ 4294967295
    | .u64 => 0 ≤ n ∧ n ≤ 18446744073709551615
    | _ => False) := by
  cases n with
  | ofNat n =>
    have e : Int.ofNat n = (n : Int) := rfl
    cases k <;> simp only [rangeOk, Bool.false_eq_true, Nat.ble_eq, e] <;> constructor <;> intro h <;> omega
  | negSucc n =>
    cases k <;> simp only [rangeOk, Bool.false_eq_true, Nat.ble_eq] <;> constructor <;> intro h <;> first | omega | exact h.elim | (exfalso; omega)
theorem rangeOk_mid {k : IntKind} {lo hi n : Int} (h1 : rangeOk k lo = true) (h2 : rangeOk k hi = true) (h3 : lo ≤ n) (h4 : n ≤ hi) : rangeOk k n = true := by
  rw [rangeOk_iff] at *
  cases k <;> simp only at * <;> omega
theorem convEv_sound {src dst : TypeId} {x e : EV} {a : Value} (h : convEv P src dst x = some e) (hx : x.conc σ ρ = some a) (w : World) : ∃ v, e.conc σ ρ = some v ∧ (convert src dst a).run P w = .ok v w := by
  unfold convEv at h
  cases hs : P.underlying src with
  | none => rw [hs] at h; cases h
  | some us =>
    rw [hs] at h
    simp only at h
    cases hd : P.underlying dst with
    | none => rw [hd] at h; cases h
    | some ud =>
      rw [hd] at h
      split at h
      · rename_i k k' n he
        injection he with he
        subst he
        injection h with h; subst h
        simp only [EV.conc, Option.some.injEq] at hx
        subst hx
        refine ⟨_, rfl, ?_⟩
        simp only [convert, Sem.run_bind, run_underlying hs, run_underlying hd, Result.andThen_ok]
        simp [Conv.intToInt, wrapF_eq]
      · rename_i k k' i lo hi he
        injection he with he
        subst he
        split at h
        · rename_i hr
          rw [Bool.and_eq_true] at hr
          injection h with h; subst h
          obtain ⟨n, k1, h1, rfl, h2, h3⟩ := sint_shape hx
          refine ⟨.int k n, ?_, ?_⟩
          · simp only [EV.conc, h1, if_pos (And.intro h2 h3)]
          · simp only [convert, Sem.run_bind, run_underlying hs, run_underlying hd, Result.andThen_ok]
            simp [Conv.intToInt, rangeOk_wrap (rangeOk_mid hr.1 hr.2 h2 h3)]
        · cases h
      · rename_i s he
        injection he with he
        subst he
        injection h with h; subst h
        simp only [EV.conc, Option.some.injEq] at hx
        subst hx
        refine ⟨_, rfl, ?_⟩
        simp only [convert, Sem.run_bind, run_underlying hs, run_underlying hd, Result.andThen_ok]
        cases us <;> rfl
      · rename_i i lo hi he
        injection he with he
        subst he
        injection h with h; subst h
        have hx' := hx
        obtain ⟨s, rfl, _, _⟩ := symb_shape hx
        refine ⟨_, hx', ?_⟩
        simp only [convert, Sem.run_bind, run_underlying hs, run_underlying hd, Result.andThen_ok]
        cases us <;> rfl
      · cases h
end
end Ev
end Go.Proofs.YtmpokappjogehaaGreatDoor
