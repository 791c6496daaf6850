/- State: the order of changes, plain. -/
import Derived.Test.YtpnchdgplpdefaaDoorSbK
namespace Go.Proofs.YtpnchdgplpdefaaDoor
open Go.RowKit Go.Shelf

theorem find_ins {n nm : NameV} {v : ByteArray} : ∀ L : List Ent, findL n (insL nm v L) = if cmpN n nm = 0 then some v else findL n L
  | [] => by
    simp only [insL, findL]
  | x :: r => by
    rw [insL]
    split
    · simp only [findL]
    · split
      next he =>
        have e := cmpN_is.eq _ _ he
        simp only [findL, ← e]
        split <;> rfl
      next he =>
        simp only [findL]
        rw [find_ins r]
        split
        next h1 =>
          have e1 := cmpN_is.eq _ _ h1
          rw [if_neg (fun h2 => by
            have e2 := cmpN_is.eq _ _ h2
            rw [← e2, e1] at he
            exact he (cmpN_is.refl _))]
        next => rfl
theorem find_none_of {n : NameV} : ∀ L : List Ent, (∀ y ∈ L, cmpN n y.1 ≠ 0) → findL n L = none
  | [], _ => rfl
  | y :: L, h => by
    rw [findL, if_neg (h y (by simp)), find_none_of L (fun z hz => h z (by simp [hz]))]
theorem find_del {n nm : NameV} : ∀ L : List Ent, SortL L → findL n (delL nm L) = if cmpN n nm = 0 then none else findL n L
  | [], _ => by simp only [delL, findL]; split <;> rfl
  | x :: r, hs => by
    obtain ⟨_, hr, _, hx⟩ := SortL.parts (L := []) (R := r) (x := x) hs
    rw [delL]
    split
    next he =>
      have e := cmpN_is.eq _ _ he
      rw [findL, e]
      split
      next h1 =>
        have e1 := cmpN_is.eq _ _ h1
        rw [e1]
        exact find_none_of r (fun y hy => by have := hx y hy; omega)
      next => rfl
    next he =>
      simp only [findL]
      rw [find_del r hr]
      split
      next h1 =>
        have e1 := cmpN_is.eq _ _ h1
        rw [if_neg (fun h2 => by
          have e2 := cmpN_is.eq _ _ h2
          rw [← e2, e1] at he
          exact he (cmpN_is.refl _)), ]
      next => rfl
theorem sort_ext : ∀ {A B : List Ent}, SortL A → SortL B → (∀ n, findL n A = findL n B) → A = B
  | [], [], _, _, _ => rfl
  | [], y :: b, _, _, h => by
    have h1 := h y.1
    simp only [findL, cmpN_is.refl, if_true] at h1
    cases h1
  | x :: a, [], _, _, h => by
    have h1 := h x.1
    simp only [findL, cmpN_is.refl, if_true] at h1
    cases h1
  | x :: a, y :: b, ha, hb, h => by
    obtain ⟨_, sa, _, la⟩ := SortL.parts (L := []) (R := a) (x := x) ha
    obtain ⟨_, sb, _, lb⟩ := SortL.parts (L := []) (R := b) (x := y) hb
    have hx := h x.1
    have hy := h y.1
    simp only [findL, cmpN_is.refl, if_true] at hx hy
    by_cases c0 : cmpN x.1 y.1 = 0
    · have e := cmpN_is.eq _ _ c0
      rw [if_pos c0] at hx
      have exy : x = y := Prod.ext e (by simpa using hx)
      subst exy
      have ht : a = b := sort_ext sa sb (fun n => by
        have hn := h n
        simp only [findL] at hn
        by_cases cn : cmpN n x.1 = 0
        · have en := cmpN_is.eq _ _ cn
          rw [en, find_none_of a (fun z hz => by have := la z hz; omega), find_none_of b (fun z hz => by have := lb z hz; omega)]
        · rw [if_neg cn, if_neg cn] at hn
          exact hn)
      rw [ht]
    · by_cases c1 : cmpN x.1 y.1 < 0
      · rw [if_neg c0, find_none_of b (fun z hz => by have := cmpN_is.trans _ _ _ c1 (lb z hz); omega)] at hx
        cases hx
      · have c2 : cmpN y.1 x.1 < 0 := cmpN_neg (by omega)
        rw [if_neg (by omega), find_none_of a (fun z hz => by have := cmpN_is.trans _ _ _ c2 (la z hz); omega)] at hy
        cases hy
theorem nextC_sort {c : CV} {L : List Ent} (h : SortL L) : SortL (nextC c L) := by
  unfold nextC
  split
  · exact delL_sort h
  · exact (insL_sort h).1
def valC (c : CV) : Option ByteArray := if c.absent then none else some c.value
theorem find_next {n : NameV} {c : CV} {L : List Ent} (h : SortL L) : findL n (nextC c L) = if cmpN n c.nm = 0 then valC c else findL n L := by
  unfold nextC valC
  split
  · rw [find_del L h]
  · rw [find_ins L]
theorem next_swap {c d : CV} {L : List Ent} (h : SortL L) (hne : c.nm ≠ d.nm) : nextC c (nextC d L) = nextC d (nextC c L) := by
  refine sort_ext (nextC_sort (nextC_sort h)) (nextC_sort (nextC_sort h)) (fun n => ?_)
  rw [find_next (nextC_sort h), find_next h, find_next (nextC_sort h), find_next h]
  split
  next h1 =>
    rw [if_neg (fun h2 => hne ((cmpN_is.eq _ _ h1).symm.trans (cmpN_is.eq _ _ h2)))]
  next => rfl
def DistC (xs : List CV) : Prop := xs.Pairwise (fun a b => a.nm ≠ b.nm)
theorem run_sort : ∀ (xs : List CV) {L : List Ent}, SortL L → SortL (runC xs L)
  | [], _, h => h
  | c :: xs, _, h => run_sort xs (nextC_sort (c := c) h)
theorem run_out {n : NameV} : ∀ (xs : List CV) {L : List Ent}, SortL L → (∀ z ∈ xs, z.nm ≠ n) → findL n (runC xs L) = findL n L
  | [], _, _, _ => rfl
  | c :: xs, L, h, hn => by
    show findL n (runC xs (nextC c L)) = _
    rw [run_out xs (nextC_sort h) (fun z hz => hn z (by simp [hz])), find_next h, if_neg (fun e => hn c (by simp) (cmpN_is.eq _ _ e).symm)]
theorem runC_in : ∀ (xs : List CV) {L : List Ent}, SortL L → DistC xs → ∀ z ∈ xs, findL z.nm (runC xs L) = valC z
  | [], _, _, _, z, hz => by cases hz
  | c :: xs, L, h, hd, z, hz => by
    show findL z.nm (runC xs (nextC c L)) = _
    obtain ⟨h1, h2⟩ := List.pairwise_cons.1 hd
    rcases List.mem_cons.1 hz with rfl | hz
    · rw [run_out xs (nextC_sort h) (fun y hy e => h1 y hy e.symm), find_next h, if_pos (cmpN_is.refl _)]
    · exact runC_in xs (nextC_sort h) h2 z hz
theorem run_same {xs ys : List CV} {L : List Ent} (h : SortL L) (hx : DistC xs) (hy : DistC ys) (hm : ∀ z, z ∈ xs ↔ z ∈ ys) : runC xs L = runC ys L := by
  refine sort_ext (run_sort xs h) (run_sort ys h) (fun n => ?_)
  by_cases hn : ∃ z ∈ xs, z.nm = n
  · obtain ⟨z, hz, rfl⟩ := hn
    rw [runC_in xs h hx z hz, runC_in ys h hy z ((hm z).1 hz)]
  · rw [run_out xs h (fun z hz e => hn ⟨z, hz, e⟩), run_out ys h (fun z hz e => hn ⟨z, (hm z).2 hz, e⟩)]
/-- The changes that are new names of objects. -/
def eqB (a b : NameV) : Bool := cmpN a b == 0
def addC (c : List CV) (z : CV) : List CV := if (!okNm z.nm || c.any (fun y => eqB y.nm z.nm)) = true then c else c ++ [z]
def pickL (zs : List CV) : List CV := zs.foldl addC []
theorem pickL_take {zs : List CV} {k : Nat} {z : CV} (h : zs[k]? = some z) : pickL (zs.take (k + 1)) = addC (pickL (zs.take k)) z := by
  rw [pickL, List.take_add_one, h, Option.toList_some, List.foldl_append]
  rfl
structure Picked (zs c : List CV) : Prop where
  dist : DistC c
  ok : ∀ z ∈ c, okNm z.nm = true
  of : ∀ z ∈ c, z ∈ zs
theorem pickL_ok (zs : List CV) : ∀ k, k ≤ zs.length → Picked zs (pickL (zs.take k)) ∧ (pickL (zs.take k)).length ≤ k
  | 0, _ => by
    rw [List.take_zero]
    exact ⟨⟨List.Pairwise.nil, (fun z h => by cases h), fun z h => by cases h⟩, Nat.le_refl _⟩
  | k + 1, h => by
    obtain ⟨⟨h1, h2, h3⟩, h4⟩ := pickL_ok zs k (by omega)
    have hk : k < zs.length := by omega
    rw [pickL_take (List.getElem?_eq_getElem hk)]
    generalize pickL (zs.take k) = c at *
    have hz : zs[k] ∈ zs := List.getElem_mem _
    generalize zs[k] = z at *
    unfold addC
    split
    · exact ⟨⟨h1, h2, h3⟩, by omega⟩
    next hg =>
      simp only [Bool.or_eq_true, Bool.not_eq_true', List.any_eq_true, not_or, Bool.not_eq_false, not_exists, not_and] at hg
      obtain ⟨g1, g2⟩ := hg
      refine ⟨⟨List.pairwise_append.2 ⟨h1, List.pairwise_singleton _ _, fun a ha b hb e => ?_⟩, fun y hy => ?_, fun y hy => ?_⟩, by rw [List.length_append]; simp only [List.length_cons, List.length_nil]; omega⟩
      · rw [List.mem_singleton] at hb
        rw [hb] at e
        exact g2 a ha (by unfold eqB; rw [e]; exact beq_iff_eq.2 (cmpN_is.refl _))
      · rcases List.mem_append.1 hy with h | h
        · exact h2 y h
        · rw [List.mem_singleton] at h; rw [h]; exact g1
      · rcases List.mem_append.1 hy with h | h
        · exact h3 y h
        · rw [List.mem_singleton] at h; rw [h]; exact hz
/-- Turned round. -/
def rotI (n t i : Nat) : Nat := (n - 1 - i + t) % n
def rotK (c : List CV) (t k : Nat) : List CV := (List.range k).filterMap (fun i => c[rotI c.length t i]?)
theorem rotK_next {c : List CV} {t k : Nat} {z : CV} (h : c[rotI c.length t k]? = some z) : rotK c t (k + 1) = rotK c t k ++ [z] := by
  rw [rotK, List.range_succ, List.filterMap_append]
  simp only [List.filterMap_cons, h, List.filterMap_nil]
  rfl
theorem rotI_lt {n t i : Nat} (h : 0 < n) : rotI n t i < n := Nat.mod_lt _ h
theorem rotI_onto {n t m : Nat} (h : m < n) : ∃ i, i < n ∧ rotI n t i = m := by
  refine ⟨(2 * n - 1 + t - m) % n, Nat.mod_lt _ (by omega), ?_⟩
  have h1 := Nat.div_add_mod (2 * n - 1 + t - m) n
  have h2 := Nat.mod_lt (2 * n - 1 + t - m) (show 0 < n by omega)
  generalize (2 * n - 1 + t - m) % n = i at *
  generalize (2 * n - 1 + t - m) / n = q at *
  have hq : 1 ≤ q := by
    rcases Nat.eq_zero_or_pos q with h0 | h0
    · rw [h0, Nat.mul_zero] at h1; omega
    · exact h0
  obtain ⟨p, rfl⟩ : ∃ p, q = p + 1 := ⟨q - 1, by omega⟩
  rw [Nat.mul_add, Nat.mul_one] at h1
  have e : n - 1 - i + t = m + n * p := by omega
  rw [rotI, e, Nat.add_mul_mod_self_left, Nat.mod_eq_of_lt h]
theorem rotI_inj {n t i j : Nat} (hj : j < n) (h : i < j) : rotI n t i ≠ rotI n t j := by
  intro e
  have h1 := Nat.sub_mod_eq_zero_of_mod_eq e
  rw [show n - 1 - i + t - (n - 1 - j + t) = j - i by omega, Nat.mod_eq_of_lt (by omega)] at h1
  omega
theorem rot_mem {c : List CV} {t : Nat} (z : CV) : z ∈ rotK c t c.length ↔ z ∈ c := by
  constructor
  · intro h
    obtain ⟨i, _, hi⟩ := List.mem_filterMap.1 h
    exact List.mem_of_getElem? hi
  · intro h
    obtain ⟨m, hm, e⟩ := List.getElem_of_mem h
    obtain ⟨i, hi, hr⟩ := rotI_onto (t := t) hm
    exact List.mem_filterMap.2 ⟨i, List.mem_range.2 hi, by rw [hr, List.getElem?_eq_getElem hm, e]⟩
theorem DistC.at_ {c : List CV} (h : DistC c) {p q : Nat} {a b : CV} (hp : c[p]? = some a) (hq : c[q]? = some b) (hne : p ≠ q) : a.nm ≠ b.nm := by
  obtain ⟨h1, rfl⟩ := List.getElem?_eq_some_iff.1 hp
  obtain ⟨h2, rfl⟩ := List.getElem?_eq_some_iff.1 hq
  rcases Nat.lt_or_gt_of_ne hne with hl | hl
  · exact List.pairwise_iff_getElem.1 h p q h1 h2 hl
  · exact (List.pairwise_iff_getElem.1 h q p h2 h1 hl).symm
theorem rot_dist {c : List CV} {t : Nat} (h : DistC c) : DistC (rotK c t c.length) := by
  unfold DistC rotK
  rw [List.pairwise_filterMap]
  refine List.Pairwise.imp_of_mem (fun {i j} _ hj hlt => ?_) List.pairwise_lt_range
  intro a ha b hb
  exact h.at_ ha hb (rotI_inj (List.mem_range.1 hj) hlt)
theorem rot_length (c : List CV) (t : Nat) : ∀ k, k ≤ c.length → (rotK c t k).length = k
  | 0, _ => rfl
  | k + 1, h => by
    have hl : rotI c.length t k < c.length := rotI_lt (by omega)
    rw [rotK_next (List.getElem?_eq_getElem hl), List.length_append, rot_length c t k (by omega)]
    rfl
end Go.Proofs.YtpnchdgplpdefaaDoor
