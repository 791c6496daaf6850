/- ImageSpoils, plainly, and the laws of one changed byte. -/
import Derived.Laws.BitsAllLaws
import Derived.Test.YtfdcmjjafngonaaDoorImQ
namespace Go.Proofs.YtfdcmjjafngonaaDoor
open Go.RowKit

theorem set_take {l : List UInt8} {p k : Nat} (x : UInt8) (h : k ≤ p) : (l.set p x).take k = l.take k := by
  rw [List.take_set_of_le h]
theorem take_ne {l : List UInt8} {p k : Nat} {x : UInt8} (hp : p < l.length) (hx : l[p]? ≠ some x) (h : p < k) : l.take k ≠ (l.set p x).take k := by
  intro he
  have := congrArg (·[p]?) he
  simp only [List.getElem?_take, if_pos h, List.getElem?_set_self hp] at this
  exact hx this

/-- What becomes of a text in which one byte is another. -/
theorem spoils (l : List UInt8) (p : Nat) (x : UInt8) (hp : p < l.length) (hx : l[p]? ≠ some x) (h12 : 12 ≤ l.length) (hm : l.length ≤ 4200) (hk : chk8 (l.take (l.length - 8)) = l.drop (l.length - 8)) :
    (decV (l.set p x)).2 = 3 ∨ (decV (l.set p x)).2 = 27 ∨ ((decV (l.set p x)).2 = 0 ∧ l.take (l.length - 8) ≠ (l.set p x).take (l.length - 8) ∧ chk8 (l.take (l.length - 8)) = chk8 ((l.set p x).take (l.length - 8))) := by
  unfold decV
  rw [List.length_set, if_neg (by omega)]
  by_cases h2 : isImg (l.set p x) = false
  · rw [if_pos h2]
    exact .inl rfl
  rw [if_neg h2, if_neg (by omega)]
  by_cases h4 : chk8 ((l.set p x).take (l.length - 8)) ≠ (l.set p x).drop (l.length - 8)
  · rw [if_pos h4]
    exact .inr (.inl rfl)
  rw [if_neg h4]
  have h4' : chk8 ((l.set p x).take (l.length - 8)) = (l.set p x).drop (l.length - 8) := by simpa using h4
  by_cases h5 : (readI (((l.set p x).take (l.length - 8)).drop 4)).2 = 0
  · refine .inr (.inr ⟨h5, ?_⟩)
    by_cases hpk : p < l.length - 8
    · refine ⟨take_ne hp hx hpk, ?_⟩
      rw [hk, h4', List.drop_set, if_pos hpk]
    · exfalso
      rw [set_take x (by omega), hk] at h4'
      have e : l = l.set p x := by
        rw [← List.take_append_drop (l.length - 8) (l.set p x), ← h4', set_take x (by omega), List.take_append_drop]
      apply hx
      rw [e, List.getElem?_set_self hp]
  · rw [readI_bad _ h5]
    exact .inl rfl

/-- The changed byte. -/
theorem xor_byte (b : UInt8) (n : Int) (h1 : 0 ≤ n) (h2 : n ≤ 255) (h0 : n ≠ 0) : ∃ x : UInt8, bits .xor .u8 (b.toNat : Int) n = ((x.toNat : Nat) : Int) ∧ x ≠ b := by
  have hb := b.toNat_lt
  obtain ⟨y, rfl⟩ : ∃ y : Nat, n = y := ⟨n.toNat, by omega⟩
  have hlt : b.toNat ^^^ y < 256 := Nat.xor_lt_two_pow (n := 8) (by omega) (by omega)
  have hx : (UInt8.ofNat (b.toNat ^^^ y)).toNat = b.toNat ^^^ y := by
    rw [UInt8.toNat_ofNat']
    omega
  refine ⟨UInt8.ofNat (b.toNat ^^^ y), ?_, fun he => ?_⟩
  · rw [u8_xor_nat _ _ (by omega) (by omega), hx]
  · have h3 : b.toNat ^^^ y = b.toNat := by rw [← hx, he]
    have h4 : b.toNat ^^^ (b.toNat ^^^ y) = b.toNat ^^^ b.toNat := by rw [h3]
    rw [← Nat.xor_assoc, Nat.xor_self, Nat.zero_xor] at h4
    omega

theorem BGrew.store {W w : World} {g n cap p : Nat} {l : List UInt8} (h : BGrew W w (.slice (some ⟨g, 0, none⟩) n cap) l) (hp : p < l.length) (x : UInt8) : BGrew W (w.setCell ⟨g, p, none⟩ (bv x)) (.slice (some ⟨g, 0, none⟩) n cap) (l.set p x) := by
  obtain ⟨hf, g', cap', hv, hWg, hgw, hlc, hcm, hc, hz, hr⟩ := h
  cases hv
  have hin := hc p (by omega)
  refine ⟨Fr.setCell hf (fun hlt => absurd hlt (by simp only; omega)) _, g, cap, by rw [List.length_set], hWg, by simpa [World.setCell] using hgw, by rw [List.length_set]; exact hlc, hcm, fun j hj => ?_, fun j hj => ?_, fun j u hu => ?_⟩
  · have := Lib.isSome_setCells g [bv x] p w ⟨g, j, none⟩ (hc j hj)
    simpa [World.setCells] using this
  · have := World.frozen?_setCells (w := w) g [bv x] p ⟨g, j, none⟩
    simp only [World.setCells] at this
    rw [this]
    exact hz j hj
  · by_cases hj : j = p
    · subst hj
      rw [List.map_set, List.getElem?_set_self (by simpa using hp)] at hu
      have e := World.cell?_setCells_in g [bv x] j w (fun k hk => by simp at hk; subst hk; exact hin) 0 (by simp)
      simp only [World.setCells, Nat.add_zero, List.getElem_cons_zero] at e
      rw [e, ← hu]
      rfl
    · rw [List.map_set, List.getElem?_set_ne (Ne.symm hj)] at hu
      have e := World.cell?_setCells_out g [bv x] p w ⟨g, j, none⟩ (fun _ _ => by simp only [List.length_singleton]; omega)
      simp only [World.setCells] at e
      rw [e]
      exact hr j u hu

/-- A store into a row of bytes of the call's own. -/
theorem wpList_storeB {ops : Array Oper} {rest : List Oper} {o : Oper} {a : Act} {w : World} {Q : Exit → Act → World → Prop} (hgd : o.guard = none) (x y : Operand) (ho : o.op = .store 5 x y)
    {W : World} (g p n cap : Nat) (b : UInt8) (hx : a.eval x = .pointer (some ⟨g, p, none⟩)) (hy : a.eval y = .int .u8 ((b.toNat : Nat) : Int)) {l : List UInt8} (hB : BGrew W w (.slice (some ⟨g, 0, none⟩) n cap) l) (hp : p < l.length)
    (h : ∀ w', BGrew W w' (.slice (some ⟨g, 0, none⟩) n cap) (l.set p b) → wpList Tryd.prog ops Q rest (a.put o.dst undef) w') : wpList Tryd.prog ops Q (o :: rest) a w := by
  obtain ⟨ie, hie, _, hs, _⟩ := info_parts info_u8
  have hB' := hB
  obtain ⟨hf, g', cap', hv, hWg, hgw, hlc, hcm, hc, hz, hr⟩ := hB'
  cases hv
  obtain ⟨old, hold⟩ := Option.isSome_iff_exists.1 (hc p (by omega))
  have hrun := Lib.rl_storeVar_one (P := Tryd.prog) 5 ie hie hs ⟨g, p, none⟩ (.int .u8 ((b.toNat : Nat) : Int)) old rfl w hold (hz p (by omega))
  refine wpList_plain hgd fun K hK => ?_
  unfold Oper.wp execOp
  simp only [ho, hx, hy, Instr.storeAt, Instr.sureAddr, Sem.run_bind, Sem.run_pure, Result.andThen_ok, hrun]
  exact hK _ _ (h _ (hB.store hp b))
end Go.Proofs.YtfdcmjjafngonaaDoor
