/- Plain laws: what was written is read again; what is cut is found to be cut. -/
import Derived.Test.YtfopfhdijdefiaaReadP
namespace Go.Proofs.Ytfopfhdijdefiaa

def VV.mostV (v : VV) : VV := { v with most := if v.kind % 4 = 3 then (v.s.size : Int) else v.n }
def encV (v : VV) : List UInt8 := if v.kind % 4 = 0 then enc v.n.toNat else if v.kind % 4 = 1 then enc (zig v.n) else if v.kind % 4 = 2 then [if v.is then 1 else 0] else textL v.s
structure GoodV (v : VV) : Prop where
  ok : v.ok
  pos : v.kind % 4 = 0 → 0 ≤ v.n
  small : v.s.size ≤ 200
  most : v.most = if v.kind % 4 = 3 then (v.s.size : Int) else v.n
structure Matches (a b : VV) : Prop where
  kind : a.kind = b.kind
  n : b.kind % 4 ≤ 1 → a.n = b.n
  is : b.kind % 4 = 2 → a.is = b.is
  s : b.kind % 4 = 3 → a.s = b.s

theorem encV0 (v : VV) (h : v.kind % 4 = 0) : encV v = enc v.n.toNat := by unfold encV; rw [if_pos h]
theorem encV1 (v : VV) (h : v.kind % 4 = 1) : encV v = enc (zig v.n) := by unfold encV; rw [if_neg (by omega), if_pos h]
theorem encV2 (v : VV) (h : v.kind % 4 = 2) : encV v = [if v.is then 1 else 0] := by unfold encV; rw [if_neg (by omega), if_neg (by omega), if_pos h]
theorem encV3 (v : VV) (h : v.kind % 4 = 3) : encV v = textL v.s := by unfold encV; rw [if_neg (by omega), if_neg (by omega), if_neg (by omega)]

theorem wV_err (X : List UInt8) (v : VV) (hs : v.s.size ≤ 200) (h : (wV (X, 0) v).2 = 0) : (v.kind % 4 = 0 → 0 ≤ v.n) ∧ wV (X, 0) v = (X ++ encV v, 0) := by
  have hcase : v.kind % 4 = 0 ∨ v.kind % 4 = 1 ∨ v.kind % 4 = 2 ∨ v.kind % 4 = 3 := by omega
  rcases hcase with h0 | h0 | h0 | h0
  · by_cases hn : v.n < 0
    · have : wV (X, 0) v = (X, 2) := by unfold wV; rw [if_pos h0]; simp [wNumber, hn]
      rw [this] at h
      simp at h
    · obtain ⟨u, hu⟩ := Int.eq_ofNat_of_zero_le (by omega : 0 ≤ v.n)
      refine ⟨fun _ => by omega, ?_⟩
      rw [wV_num X v u h0 hu, encV0 v h0, hu]
      rfl
  · exact ⟨fun h => by omega, by rw [wV_sig X v h0, encV1 v h0]⟩
  · exact ⟨fun h => by omega, by rw [wV_flag X v h0, encV2 v h0]⟩
  · exact ⟨fun h => by omega, by rw [wV_text X v h0 (by omega), encV3 v h0]⟩

theorem writeL_good : ∀ (L : List VV) (X : List UInt8), (∀ v ∈ L, v.s.size ≤ 200) → (writeL (X, 0) L).2 = 0 → (∀ v ∈ L, v.kind % 4 = 0 → 0 ≤ v.n) ∧ writeL (X, 0) L = (X ++ L.flatMap encV, 0)
  | [], X, _, _ => by simp [writeL]
  | v :: L, X, hs, h => by
    simp only [writeL, List.foldl_cons] at h
    have hv : (wV (X, 0) v).2 = 0 := by
      by_cases hv : (wV (X, 0) v).2 = 0
      · exact hv
      · have := writeL_keeps (wV (X, 0) v) L hv
        simp only [writeL] at this
        rw [this] at h
        exact absurd h hv
    obtain ⟨h1, h2⟩ := wV_err X v (hs v (List.mem_cons_self ..)) hv
    rw [h2] at h
    obtain ⟨h3, h4⟩ := writeL_good L (X ++ encV v) (fun u hu => hs u (List.mem_cons_of_mem _ hu)) h
    refine ⟨fun u hu => ?_, ?_⟩
    · rcases List.mem_cons.1 hu with rfl | hu
      · exact h1
      · exact h3 u hu
    · simp only [writeL, List.foldl_cons] at h4 ⊢
      rw [h2, h4]
      simp

theorem rStep_of {α : Type} (zero : α) (parse : List UInt8 → α × Nat × Int) (l : List UInt8) (p : Nat) (x : α) (k : Nat) (h : parse l = (x, k, 0)) : rStep zero parse (l, p, 0) = (x, (l.drop k, p + k, 0)) := by
  unfold rStep
  simp [h]
theorem rStep_no {α : Type} (zero : α) (parse : List UInt8 → α × Nat × Int) (l : List UInt8) (p : Nat) (e : Int) (he : e ≠ 0) (h : (parse l).2.2 = e) : (rStep zero parse (l, p, 0)).2.2.2 = e := by
  unfold rStep
  simp [h, he]

theorem strL_toArray (s : ByteArray) : (⟨(strL s).toArray⟩ : ByteArray) = s := by simp [strL]

theorem rV_enc (v : VV) (r : List UInt8) (p : Nat) (g : GoodV v) : ∃ x, Matches x v ∧ rV (encV v ++ r, p, 0) v = (x, (r, p + (encV v).length, 0)) := by
  have ok := g.ok
  have hcase : v.kind % 4 = 0 ∨ v.kind % 4 = 1 ∨ v.kind % 4 = 2 ∨ v.kind % 4 = 3 := by omega
  rcases hcase with h0 | h0 | h0 | h0
  · have hp := g.pos h0
    have hm := g.most
    rw [if_neg (by omega)] at hm
    have := ok.n2
    have h1 := pn_enc9 v.n.toNat r (by omega)
    have h2 : pNumber v.most (encV v ++ r) = (v.n, (encV v).length, 0) := by
      rw [encV0 v h0]
      unfold pNumber
      rw [h1]
      simp only
      rw [if_neg (by omega)]
      simp
      omega
    rw [rV0 _ _ h0, rStep_of _ _ _ _ _ _ h2]
    refine ⟨{ kind := v.kind, n := v.n, is := false, s := ⟨#[]⟩, most := v.most }, ⟨rfl, fun _ => rfl, fun h => by omega, fun h => by omega⟩, ?_⟩
    simp
  · have h1 := pn_enc10 (zig v.n) r (zig_lt _ ok.n2 ok.n1)
    have h2 : pSigned (encV v ++ r) = (v.n, (encV v).length, 0) := by
      rw [encV1 v h0]
      unfold pSigned
      rw [h1]
      simp [unzig_zig]
    rw [rV1 _ _ h0, rStep_of _ _ _ _ _ _ h2]
    refine ⟨{ kind := v.kind, n := v.n, is := false, s := ⟨#[]⟩, most := v.most }, ⟨rfl, fun _ => rfl, fun h => by omega, fun h => by omega⟩, ?_⟩
    simp
  · have h2 : pFlag (encV v ++ r) = (v.is, (encV v).length, 0) := by
      rw [encV2 v h0]
      cases v.is <;> simp [pFlag]
    rw [rV2 _ _ h0, rStep_of _ _ _ _ _ _ h2]
    refine ⟨{ kind := v.kind, n := 0, is := v.is, s := ⟨#[]⟩, most := v.most }, ⟨rfl, fun h => by omega, fun _ => rfl, fun h => by omega⟩, ?_⟩
    simp
  · have hm := g.most
    rw [if_pos h0] at hm
    have hs := g.small
    have h1 := pn_enc9 v.s.size (strL v.s ++ r) (by omega)
    have hl := strL_length v.s
    have h2 : pText v.most (encV v ++ r) = (strL v.s, (encV v).length, 0) := by
      rw [encV3 v h0]
      unfold pText textL
      rw [List.append_assoc, h1]
      simp only [ne_eq, not_true_eq_false, if_false]
      rw [if_neg (by omega), if_neg (by simp [hl])]
      simp [hl]
    rw [rV3 _ _ h0, rStep_of _ _ _ _ _ _ h2]
    refine ⟨{ kind := v.kind, n := 0, is := false, s := ⟨(strL v.s).toArray⟩, most := v.most }, ⟨rfl, fun h => by omega, fun h => by omega, fun _ => strL_toArray v.s⟩, ?_⟩
    simp

theorem pn_cut (u k m : Nat) (hu : u < 128 ^ (9 + 1)) (hk : k < (enc u).length) (hm : (enc u).length ≤ m) : pn ((enc u).take k) m = (0, 0, 28) := by
  obtain ⟨p1, _, _, _⟩ := encF_props 9 u hu
  have hlen : ((enc u).take k).length = k := by simp; omega
  have key : ∀ (l : List UInt8) (m : Nat), (∀ i, i < l.length → 128 ≤ (l[i]?.getD 0).toNat) → l.length ≤ m → lead l m = l.length := by
    intro l
    induction l with
    | nil => intro m _ _; simp [lead]
    | cons b l ih =>
      intro m h1 h2
      cases m with
      | zero => simp at h2
      | succ m =>
        have hb := h1 0 (by simp)
        simp at hb
        rw [lead, if_pos hb, ih m (fun i hi => by simpa using h1 (i + 1) (by simpa using hi)) (by simpa using h2)]
        rfl
  have hl : lead ((enc u).take k) m = k := by
    rw [key _ m (fun i hi => ?_) (by omega), hlen]
    rw [hlen] at hi
    rw [List.getElem?_take, if_pos hi]
    exact p1 i (by unfold enc at hk; omega)
  exact pn_trunc _ m k hl (by omega) hlen.symm

theorem rV_cut (v : VV) (k : Nat) (p : Nat) (g : GoodV v) (hk : k < (encV v).length) : (rV ((encV v).take k, p, 0) v).2.2.2 = 28 := by
  have ok := g.ok
  have hcase : v.kind % 4 = 0 ∨ v.kind % 4 = 1 ∨ v.kind % 4 = 2 ∨ v.kind % 4 = 3 := by omega
  rcases hcase with h0 | h0 | h0 | h0
  · have hp := g.pos h0
    have := ok.n2
    rw [rV0 _ _ h0]
    rw [encV0 v h0] at hk ⊢
    have h1 := pn_cut v.n.toNat k 9 (by rw [pow128_10]; omega) hk (enc_length9 _ (by omega))
    exact rStep_no _ _ _ _ 28 (by omega) (by simp [pNumber, h1])
  · rw [rV1 _ _ h0]
    rw [encV1 v h0] at hk ⊢
    have h3 := zig_lt _ ok.n2 ok.n1
    have h1 := pn_cut (zig v.n) k 10 (by rw [pow128_10]; omega) hk (enc_length _)
    exact rStep_no _ _ _ _ 28 (by omega) (by simp [pSigned, h1])
  · rw [rV2 _ _ h0]
    rw [encV2 v h0] at hk ⊢
    have : k = 0 := by simpa using hk
    subst this
    exact rStep_no _ _ _ _ 28 (by omega) (by simp [pFlag])
  · have hm := g.most
    rw [if_pos h0] at hm
    have hs := g.small
    have hl := strL_length v.s
    rw [rV3 _ _ h0]
    rw [encV3 v h0] at hk ⊢
    unfold textL at *
    rw [List.length_append, hl] at hk
    refine rStep_no _ _ _ _ 28 (by omega) ?_
    rcases Nat.lt_or_ge k (enc v.s.size).length with h1 | h1
    · rw [List.take_append_of_le_length (by omega)]
      have h2 := pn_cut v.s.size k 9 (by rw [pow128_10]; omega) h1 (enc_length9 _ (by omega))
      simp [pText, h2]
    · have e : (enc v.s.size ++ strL v.s).take k = enc v.s.size ++ (strL v.s).take (k - (enc v.s.size).length) := by
        rw [List.take_append, List.take_of_length_le h1]
      rw [e]
      have h2 := pn_enc9 v.s.size ((strL v.s).take (k - (enc v.s.size).length)) (by omega)
      unfold pText
      rw [h2]
      simp only [ne_eq, not_true_eq_false, if_false]
      rw [if_neg (by omega), if_pos (by simp [hl]; omega)]

theorem readL_enc : ∀ (L : List VV) (r : List UInt8) (p : Nat), (∀ v ∈ L, GoodV v) → ∃ R, readL (L.flatMap encV ++ r, p, 0) L = (R, (r, p + (L.flatMap encV).length, 0)) ∧ ∀ (i : Nat) (v : VV), L[i]? = some v → ∃ x, R[i]? = some x ∧ Matches x v
  | [], r, p, _ => ⟨[], by simp [readL], by simp⟩
  | v :: L, r, p, h => by
    obtain ⟨x, h1, h2⟩ := rV_enc v (L.flatMap encV ++ r) p (h v (List.mem_cons_self ..))
    obtain ⟨R, h3, h4⟩ := readL_enc L r (p + (encV v).length) (fun u hu => h u (List.mem_cons_of_mem _ hu))
    refine ⟨x :: R, ?_, ?_⟩
    · simp only [readL, List.flatMap_cons, List.append_assoc]
      rw [h2, h3]
      simp [Nat.add_assoc]
    · intro i u hu
      cases i with
      | zero => simp at hu; subst hu; exact ⟨x, by simp, h1⟩
      | succ i => simpa using h4 i u (by simpa using hu)

theorem readL_cut : ∀ (L : List VV) (k : Nat) (p : Nat), (∀ v ∈ L, GoodV v) → k < (L.flatMap encV).length → (readL ((L.flatMap encV).take k, p, 0) L).2.2.2 = 28
  | [], k, p, _, hk => by simp at hk
  | v :: L, k, p, h, hk => by
    rw [List.flatMap_cons] at hk ⊢
    rw [List.length_append] at hk
    simp only [readL]
    rcases Nat.lt_or_ge k (encV v).length with h1 | h1
    · rw [List.take_append_of_le_length (by omega)]
      have h2 := rV_cut v k p (h v (List.mem_cons_self ..)) h1
      rw [readL_bad _ L (by rw [h2]; omega)]
      exact h2
    · have e : (encV v ++ L.flatMap encV).take k = encV v ++ (L.flatMap encV).take (k - (encV v).length) := by
        rw [List.take_append, List.take_of_length_le h1]
      rw [e]
      obtain ⟨x, _, h2⟩ := rV_enc v ((L.flatMap encV).take (k - (encV v).length)) p (h v (List.mem_cons_self ..))
      rw [h2]
      exact readL_cut L _ _ (fun u hu => h u (List.mem_cons_of_mem _ hu)) (by omega)
end Go.Proofs.Ytfopfhdijdefiaa
