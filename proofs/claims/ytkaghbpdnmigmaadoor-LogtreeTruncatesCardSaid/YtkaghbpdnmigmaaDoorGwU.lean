/- Several texts in one. -/
import Derived.Test.YtkaghbpdnmigmaaDoorTrE
/- The laws' Leaves and grown. -/
namespace Go.Proofs.YtkaghbpdnmigmaaDoor
open Go.RowKit

/-! ### Leaves -/
def leafOf (s i : UInt8) : List UInt8 := [s, 0, 0, 0, 0, i, 0, 0, 0, 0, 0, 0, 0, 0, 0, 0, 0, 0, 0, 0, 0, 0, 0, 0, 0, 0, 0, 0, 0, 0, 0, 7]
theorem leafOf_length (s i : UInt8) : (leafOf s i).length = 32 := rfl
def leavesL (m : Nat) (s : UInt8) : List (List UInt8) := (List.range m).map fun i => leafOf s (UInt8.ofNat i)
theorem leavesL_length (m : Nat) (s : UInt8) : (leavesL m s).length = m := by simp [leavesL]
theorem leavesL_each (m : Nat) (s : UInt8) : ∀ d ∈ leavesL m s, d.length = 32 := by
  intro d hd
  obtain ⟨i, _, rfl⟩ := List.mem_map.1 hd
  rfl
theorem leavesL_succ (m : Nat) (s : UInt8) : leavesL (m + 1) s = leavesL m s ++ [leafOf s (UInt8.ofNat m)] := by
  unfold leavesL
  rw [List.range_succ, List.map_append]
  rfl
theorem built_leaf (s i : UInt8) : Tryd.prog.built 23 [(0, bvI s), (5, bvI i), (31, .int .u8 7)] = some (digC (leafOf s i)).toArray := by kernel_rfl
theorem built_leaf' (s : UInt8) (k : Nat) (hk : k < 256) : Tryd.prog.built 23 [(0, .int .u8 ((s.toNat : Nat) : Int)), (5, .int .u8 (k : Int)), (31, .int .u8 7)] = some (digC (leafOf s (UInt8.ofNat k))).toArray := by
  have h := built_leaf s (UInt8.ofNat k)
  have e : bvI (UInt8.ofNat k) = .int .u8 (k : Int) := by
    unfold bvI
    rw [UInt8.toNat_ofNat', Nat.mod_eq_of_lt hk]
  rw [e] at h
  exact h
theorem info_D32' : (Tryd.prog.info? 23).map (fun i => (i.zero, i.size, i.bytes)) = some (some zero32, 32, 32) := by kernel_rfl
/-- A list of arrays, made by the call. -/
def Owned32 (w : World) (n : Nat) (ds : List (List UInt8)) (e : Ending) (w' : World) : Prop := ∃ v, e = .returned v ∧ Grew 23 32 w (.slice none 0 0) w' v n (ds.flatMap digC)
theorem DigL.of_grew32 {w w' : World} {v : Value} {n : Nat} {ds : List (List UInt8)} (h : Grew 23 32 w (.slice none 0 0) w' v n (ds.flatMap digC)) (hl : ds.length = n) (he : ∀ d ∈ ds, d.length = 32) :
    ∃ A c, v = .slice A n c ∧ DigL w' (Rows1 v) A n ds ∧ n ≤ c ∧ c ≤ 9223372036854775807 ∧ Fr Nothing w w' := by
  obtain ⟨A, c, rfl, hc⟩ := own_shape h.own
  refine ⟨A, c, rfl, ⟨Rd.of_own h.own, hl, he⟩, hc, ?_, h.fr0⟩
  rcases h.own.2 with ⟨hv, _⟩ | ⟨g, cap, cur, hv, _, _, _, hcap, _⟩
  · injection hv with _ _ h3
    omega
  · injection hv with _ _ h3
    unfold maxLen at hcap
    omega

set_option maxRecDepth 100000 in
set_option maxHeartbeats 1000000 in
theorem Leaves_any (n : Nat) (s : UInt8) (w : World) (hn : n ≤ 255) : Calls Tryd.prog 28 #[.int .u8 n, .int .u8 ((s.toNat : Nat) : Int)] w (Owned32 w (n % 41) (leavesL (n % 41) s)) := by
  obtain ⟨i0, hi0, hz0, hz1, hz2⟩ := info_parts info_D32'
  obtain ⟨m, hm⟩ : ∃ m, m = n % 41 := ⟨_, rfl⟩
  have hm41 : m < 41 := by omega
  have a1 : (n : Int).tmod 41 = (m : Int) := by rw [Int.tmod_eq_emod_of_nonneg (by omega)]; omega
  have a2 : (n : Int) % 41 = (m : Int) := by omega
  have a3 : n % 41 = m := hm.symm
  rw [← hm]
  clear hm
  have s8 := s.toNat_lt
  have g1 : Hid (¬ 1 * i0.size > 2 ^ 24) := by simp only [Hid]; rw [hz1]; omega
  have g2 : Hid (¬ 1 * i0.size = 0) := by simp only [Hid]; rw [hz1]; omega
  go_enter Tryd.func28, Tryd.ntmps28
  go_wp2
  go_loopw [5, 6] (fun v i wr => ∃ k : Nat, k ≤ m ∧ i = .int .i64 k ∧ Grew 23 32 w (.slice none 0 0) wr v k ((leavesL k s).flatMap digC)) (fun _ i _ => m - (intOf i).toNat)
  case atStart => exact ⟨0, by omega, rfl, Grew.start ⟨rfl, .inl ⟨rfl, rfl⟩⟩⟩
  case round =>
    obtain ⟨k, hk, rfl, hG⟩ := hrel
    have KG := Lib.hid hG
    obtain ⟨A1, m1, c1, rfl, H1, H2⟩ := own_slice hG.own
    clear hG
    by_cases hlt : k < m
    · have hI : (k : Int) < (m : Int) := by omega
      have hw : IntKind.u8.wrap (k : Int) = (k : Int) := IntWalk.u8_in _ (by omega)
      have BL : Hid (Tryd.prog.built 23 [(0, .int .u8 ((s.toNat : Nat) : Int)), (5, .int .u8 (k : Int)), (31, .int .u8 7)] = some (digC (leafOf s (UInt8.ofNat k))).toArray) := built_leaf' s k (by omega)
      have HF : Hid (Instr.fill (fun i => some (i * 32, 32)) ((Array.range (1 * 32)).map (zero32.cells[· % zero32.cells.size]!)) [(0, .agg (digC (leafOf s (UInt8.ofNat k))).toArray)] = some (digC (leafOf s (UInt8.ofNat k))).toArray) := fill_one _ _ (by simp [digC, leafOf_length]) (by simp)
      have HL : Hid ((digC (leafOf s (UInt8.ofNat k))).toArray.size = 1 * 32) := by simp [Hid, digC, leafOf_length]
      have HO : Hid (∀ u ∈ (digC (leafOf s (UInt8.ofNat k))).toArray.toList, u.oneCell' = true) := by
        intro u hu
        exact oneCell_bvI _ u (by simpa [digC] using hu)
      have HT : Hid ((leavesL (k + 1) s).flatMap digC = (leavesL k s).flatMap digC ++ digC (leafOf s (UInt8.ofNat k))) := by
        simp only [Hid]
        rw [leavesL_succ, List.flatMap_append, List.flatMap_singleton]
      generalize digC (leafOf s (UInt8.ofNat k)) = RV at *
      have g3 : Hid (Instr.fill (fun i => some (i * i0.size, i0.size)) ((Array.range (1 * i0.size)).map (zero32.cells[· % zero32.cells.size]!)) [(0, .agg RV.toArray)] = some RV.toArray) := by simp only [Hid]; rw [hz1]; exact HF.out
      go_wp2_with (refine wpList_buildTo rfl 23 #[(0, .tmp 15), (5, .tmp 17), (31, .const (.int .u8 7))] rfl RV.toArray ?bb (Held.go ?hold))
      case bb => exact BL.out
      unfold Held
      refine wpList_buildSlice rfl 22 23 1 #[(0, .tmp 18)] rfl RV.toArray i0 zero32 Tryd.underlying22 hi0 hz0 g1.out g2.out ?b3 ?_
      case b3 =>
        simp only [List.map_toArray, List.map_cons, List.map_nil]
        exact g3.out
      refine wpList_app1 _ rfl _ _ 22 rfl 23 i0 zero32 32 32 Tryd.underlying22 hi0 hz0 hz1 hz2 rfl (by omega) _ _ _ rfl KG.out.own 1 RV.toArray _ rfl rfl HL.out HO.out (by omega) (by omega) ?_
      intro v2 w2 hG2
      have K2 : Hid (Grew 23 32 w (.slice none 0 0) w2 v2 (k + 1) ((leavesL (k + 1) s).flatMap digC)) := by
        have h := KG.out.trans hG2
        simp only [Hid]
        rw [HT.out]
        exact h
      clear hG2
      go_wp2
      go_roundw
      case rel => exact ⟨k + 1, by omega, by go_num, K2.out⟩
      case measure => simp [intOf]; omega
    · obtain rfl : k = m := by omega
      go_wp2
      go_ret
      exact ⟨_, rfl, KG.out⟩

/-! ### grown -/
/-- A new tree with leaves. -/
def TreeN (w w' : World) (p : Nat) (ds : List (List UInt8)) : Prop := ∃ A c mb, TreeC w' p A ds.length c mb ds (partC ds.length) ∧ Fr Nothing w w' ∧ ∀ k, TB p A ds.length c mb k → w.heap.size ≤ k
theorem TreeN.fr0 {w w' w'' : World} {p : Nat} {ds : List (List UInt8)} (h : TreeN w w' p ds) (hf : Fr Nothing w' w'') : TreeN w w'' p ds := by
  obtain ⟨A, c, mb, h1, h2, h3⟩ := h
  exact ⟨A, c, mb, h1.fr0 hf, h2.trans hf, h3⟩
theorem ShaTab.low {w : World} (h : ShaTab w) : 0 < w.heap.size ∧ 1 < w.heap.size := by
  have h1 : ∃ u, (stV initS)[0]? = some u := ⟨_, rfl⟩
  obtain ⟨u, hu⟩ := h1
  exact ⟨World.block_lt_of_cell? w _ (h.init 0 u hu), World.block_lt_of_cell? w _ (h.kk 0 (by omega))⟩
theorem TreeN.append {w w' w'' : World} {p : Nat} {ds : List (List UInt8)} {d : List UInt8} {A : Option Addr} {c : Nat} {mb : Option Nat} (h3 : ∀ k, TB p A ds.length c mb k → w.heap.size ≤ k) (h2 : Fr Nothing w w') {e : Ending} (ha : Appended w' p A ds.length c mb ds d e w'') : TreeN w w'' p (ds ++ [d]) := by
  obtain ⟨_, A', c', mb', k1, k2, k3⟩ := ha
  refine ⟨A', c', mb', by rw [List.length_append, List.length_singleton]; exact k1, h2.then_ k2 (fun i hi e => by have := h3 i e; omega), fun k hk => ?_⟩
  rw [List.length_append, List.length_singleton] at hk
  rcases k3 k hk with h | h
  · exact h3 k h
  · exact Nat.le_trans h2.size h

set_option maxRecDepth 100000 in
set_option maxHeartbeats 2000000 in
theorem grown_any (n : Nat) (ds : List (List UInt8)) (A : Option Addr) (c : Nat) (S : Nat → Prop) (w : World) (hD : DigL w S A n ds) (hn : n ≤ 1048576) (hS : ShaTab w) :
    Calls Tryd.prog 29 #[.slice A n c] w (fun e w' => e = .returned (.tuple #[.pointer (some ⟨w.heap.size, 0, none⟩), .bool true]) ∧ TreeN w w' w.heap.size ds) := by
  have HD := Lib.hid hD
  have HS := Lib.hid hS
  have HLO := Lib.hid hS.low
  clear hD hS
  go_enter Tryd.func29, Tryd.ntmps29
  go_wp2_with fail
  refine (New_any w).mono ?_
  rintro e w1 ⟨rfl, hw1⟩
  have T0 : Hid (TreeN w w1 w.heap.size []) := by
    subst hw1
    refine ⟨none, 0, none, ⟨Blk.new w 102 #[.slice none 0 0, .map none], ⟨rfl, .inl ⟨rfl, rfl⟩⟩, rfl, (by simp), .inr ⟨rfl, fun l i h => ?_⟩⟩, (Fr.refl _ _).alloc _, fun k hk => ?_⟩
    · have h2 : (i + 1) * 2 ^ l ≤ 0 := h.2
      have h4 : 1 ≤ 2 ^ l := Nat.one_le_two_pow
      have h3 : (i + 1) * 1 ≤ (i + 1) * 2 ^ l := Nat.mul_le_mul_left _ h4
      omega
    · rcases hk with h | h | h
      · omega
      · cases h
      · simp [Value.ownBlock] at h
  clear hw1
  generalize hp : w.heap.size = p at *
  have HP := Lib.hid hp
  clear hp
  go_wp2
  go_loopw [5] (fun i wr => ∃ k : Nat, k ≤ n ∧ i = .int .i64 k ∧ TreeN w wr p (ds.take k)) (fun i _ => n - (intOf i).toNat)
  case atStart => exact ⟨0, by omega, rfl, by simpa using T0.out⟩
  case round =>
    obtain ⟨k, hk, rfl, hT⟩ := hrel
    clear T0
    obtain ⟨A1, c1, mb1, t1, t2, t3⟩ := hT
    have H1 := Lib.hid t1
    have H2 := Lib.hid t2
    have H3 := Lib.hid t3
    have hkl : (ds.take k).length = k := by rw [List.length_take, HD.out.len]; omega
    clear t1 t2 t3
    by_cases hlt : k < n
    · obtain ⟨ad, d, rfl, hb, hd, hd32, hcell⟩ := (HD.out.fr0 H2.out).at_ hlt
      have hI : (k : Int) < (n : Int) := by omega
      have HC := Lib.hid hcell
      have HI : Hid ((Tryd.prog.info? 23).map (·.size) = some (digC d).length) := by rw [digC, List.length_map, hd32]; exact info32
      have CA : Hid (Calls Tryd.prog 39 #[.pointer (some ⟨p, 0, none⟩), .agg (digC d).toArray] wr (Appended wr p A1 (ds.take k).length c1 mb1 (ds.take k) d)) := by
        refine Append_any p A1 (ds.take k).length c1 mb1 (ds.take k) d wr H1.out hd32 (by omega) (HS.out.fr0 H2.out) (fun j hj hb => ?_)
        have := H3.out j hb
        have := HLO.out
        have := HP.out
        rcases hj with rfl | rfl <;> omega
      have HT : Hid (ds.take (k + 1) = ds.take k ++ [d]) := by
        simp only [Hid]
        rw [List.take_add_one, hd]
        rfl
      clear hcell hd hd32
      generalize digC d = RV at *
      go_wp2_with (refine wpList_load_add rfl 23 (.tmp 16) rfl _ rfl RV _ ?hcc Tryd.underlying23 rfl HI.out (Held.go ?hold))
      case hcc => exact HC.out
      unfold Held
      go_wp2_with fail
      refine CA.out.mono ?_
      rintro e w2 hA
      have N2 := Lib.hid (TreeN.append H3.out H2.out hA)
      obtain ⟨rfl, _⟩ := hA
      rw [← HT.out] at N2
      clear H1 H2 H3 HC CA
      go_wp2
      go_roundw
      case rel => exact ⟨k + 1, by omega, by go_num, N2.out⟩
      case measure => simp [intOf]; omega
    · obtain rfl : k = n := by omega
      have htk : ds.take k = ds := List.take_of_length_le (by rw [HD.out.len]; exact Nat.le_refl _)
      rw [htk] at H1 H3 hkl
      have c0 : wr.cell? ⟨p, 0, none⟩ = some (.slice A1 k c1) := by
        have h := H1.out.blk.cell 0
        rw [hkl] at h
        exact h
      have CL := Lib.hid (Len_any p A1 k c1 wr c0)
      clear c0
      go_wp2_with fail
      refine CL.out.mono ?_
      rintro e w2 ⟨rfl, hw2⟩
      subst hw2
      go_wp2
      go_ret2
      have hp := HP.out
      subst hp
      exact ⟨rfl, A1, c1, mb1, H1.out, H2.out, H3.out⟩
end Go.Proofs.YtkaghbpdnmigmaaDoor

/- Paths: plainly, and Tree.include, Tree.Include. -/
namespace Go.Proofs.YtkaghbpdnmigmaaDoor
open Go.RowKit

/-! ### Plainly -/
def pathL (ds : List (List UInt8)) (index : Nat) : List (List UInt8) :=
  if _h : 1 ≤ leftN ds.length ∧ leftN ds.length < ds.length then
    (if index < leftN ds.length then pathL (ds.take (leftN ds.length)) index ++ [rootL (ds.drop (leftN ds.length))] else pathL (ds.drop (leftN ds.length)) (index - leftN ds.length) ++ [rootL (ds.take (leftN ds.length))])
  else []
termination_by ds.length
decreasing_by
  · simp only [List.length_take]; omega
  · simp only [List.length_drop]; omega
theorem pathL_one (ds : List (List UInt8)) (index : Nat) (h : ds.length ≤ 1) : pathL ds index = [] := by
  rw [pathL, dif_neg (by omega)]
theorem pathL_more (ds : List (List UInt8)) (index n : Nat) (hl : ds.length = n) (h2 : 2 ≤ n) (hn : n ≤ 1099511627776) : pathL ds index = if index < leftN n then pathL (ds.take (leftN n)) index ++ [rootL (ds.drop (leftN n))] else pathL (ds.drop (leftN n)) (index - leftN n) ++ [rootL (ds.take (leftN n))] := by
  obtain ⟨a, _, c⟩ := leftN_bounds n h2 hn
  rw [pathL, dif_pos (by rw [hl]; exact ⟨c, a⟩), hl]
theorem leftN_pow (n k : Nat) (h2 : 2 ≤ n) (hn : n ≤ 1099511627776) (h : n ≤ 2 ^ (k + 1)) : leftN n ≤ 2 ^ k := by
  obtain ⟨a, _, _⟩ := leftN_bounds n h2 hn
  have hp : leftN n = 2 ^ (Lib.bitLen (n - 1) - 1) := rfl
  rw [hp] at a ⊢
  refine Nat.pow_le_pow_right (by omega) ?_
  rcases Nat.lt_or_ge k (Lib.bitLen (n - 1) - 1) with h' | h'
  · have : 2 ^ (k + 1) ≤ 2 ^ (Lib.bitLen (n - 1) - 1) := Nat.pow_le_pow_right (by omega) h'
    omega
  · exact h'
theorem pathL_depth : ∀ (k : Nat) (ds : List (List UInt8)) (i : Nat), ds.length ≤ 2 ^ k → ds.length ≤ 1048576 → (pathL ds i).length ≤ k
  | 0, ds, i, h, _ => by rw [pathL_one ds i (by simpa using h)]; simp
  | k + 1, ds, i, h, hn => by
    by_cases h2 : 2 ≤ ds.length
    · obtain ⟨a, b, c⟩ := leftN_bounds ds.length h2 (by omega)
      have hp := leftN_pow ds.length k h2 (by omega) h
      rw [pathL_more ds i _ rfl h2 (by omega)]
      split
      · rw [List.length_append, List.length_singleton]
        have := pathL_depth k (ds.take (leftN ds.length)) i (by rw [List.length_take]; omega) (by rw [List.length_take]; omega)
        omega
      · rw [List.length_append, List.length_singleton]
        have := pathL_depth k (ds.drop (leftN ds.length)) (i - leftN ds.length) (by rw [List.length_drop]; omega) (by rw [List.length_drop]; omega)
        omega
    · rw [pathL_one ds i (by omega)]
      simp
theorem pathL_each (n : Nat) : ∀ (ds : List (List UInt8)) (i : Nat), ds.length = n → n ≤ 1048576 → (∀ d ∈ ds, d.length = 32) → ∀ d ∈ pathL ds i, d.length = 32 := by
  induction n using Nat.strongRecOn with
  | _ n ih =>
    intro ds i hl hn he d hd
    by_cases h2 : 2 ≤ n
    · obtain ⟨a, b, c⟩ := leftN_bounds n h2 (by omega)
      rw [pathL_more ds i n hl h2 (by omega)] at hd
      have h1 : (rootL (ds.drop (leftN n))).length = 32 := rootL_length (n - leftN n) _ (by rw [List.length_drop, hl]) (by omega) (by omega) (fun x hx => he x (List.mem_of_mem_drop hx))
      have h2 : (rootL (ds.take (leftN n))).length = 32 := rootL_length (leftN n) _ (by rw [List.length_take, hl]; omega) (by omega) (by omega) (fun x hx => he x (List.mem_of_mem_take hx))
      split at hd
      · rcases List.mem_append.1 hd with h | h
        · exact ih (leftN n) a _ i (by rw [List.length_take, hl]; omega) (by omega) (fun x hx => he x (List.mem_of_mem_take hx)) d h
        · rw [List.mem_singleton.1 h]; exact h1
      · rcases List.mem_append.1 hd with h | h
        · exact ih (n - leftN n) (by omega) _ _ (by rw [List.length_drop, hl]) (by omega) (fun x hx => he x (List.mem_of_mem_drop hx)) d h
        · rw [List.mem_singleton.1 h]; exact h2
    · rw [pathL_one ds i (by omega)] at hd
      cases hd

theorem runF_more (leaf : List UInt8) (pre : List Bool) (P X : List (List UInt8)) (h : P.length = pre.length) : runF leaf pre (P ++ X) = runF leaf pre P := by
  unfold runF
  have : pre.zip (P ++ X) = pre.zip P := by
    have h2 := List.zip_append (l₁ := pre) (l₂ := P) (r₁ := []) (r₂ := X) h.symm
    simpa using h2
  rw [this]
theorem path_run (n : Nat) : ∀ (ds : List (List UInt8)) (i : Nat), ds.length = n → i < n → n ≤ 1048576 → (pathL ds i).length = (stepsL i n).length ∧ (runF (ds.getD i []) (stepsL i n) (pathL ds i)).1 = rootL ds := by
  induction n using Nat.strongRecOn with
  | _ n ih =>
    intro ds i hl hi hn
    by_cases h2 : 2 ≤ n
    · obtain ⟨a, b, c⟩ := leftN_bounds n h2 (by omega)
      rw [pathL_more ds i n hl h2 (by omega), rootL_more ds n hl h2 (by omega)]
      by_cases hk : i < leftN n
      · obtain ⟨e1, e2⟩ := ih (leftN n) a (ds.take (leftN n)) i (by rw [List.length_take, hl]; omega) hk (by omega)
        have hg : (ds.take (leftN n)).getD i [] = ds.getD i [] := by rw [List.getD_eq_getElem?_getD, List.getD_eq_getElem?_getD, List.getElem?_take_of_lt hk]
        rw [hg] at e2
        rw [if_pos hk, stepsL_left h2 (by omega) hk]
        refine ⟨by rw [List.length_append, List.length_append, e1]; rfl, ?_⟩
        rw [runF_snoc _ _ _ true (rootL (ds.drop (leftN n))) (by rw [← e1, List.getElem?_append_right (Nat.le_refl _), Nat.sub_self]; rfl), runF_more _ _ _ _ e1]
        simp only [stepF, if_true, e2]
      · obtain ⟨e1, e2⟩ := ih (n - leftN n) (by omega) (ds.drop (leftN n)) (i - leftN n) (by rw [List.length_drop, hl]) (by omega) (by omega)
        have hg : (ds.drop (leftN n)).getD (i - leftN n) [] = ds.getD i [] := by rw [List.getD_eq_getElem?_getD, List.getD_eq_getElem?_getD, List.getElem?_drop, show leftN n + (i - leftN n) = i by omega]
        rw [hg] at e2
        rw [if_neg hk, stepsL_right h2 (by omega) hk]
        refine ⟨by rw [List.length_append, List.length_append, e1]; rfl, ?_⟩
        rw [runF_snoc _ _ _ false (rootL (ds.take (leftN n))) (by rw [← e1, List.getElem?_append_right (Nat.le_refl _), Nat.sub_self]; rfl), runF_more _ _ _ _ e1]
        simp only [stepF, Bool.false_eq_true, if_false, e2]
    · obtain rfl : n = 1 := by omega
      obtain rfl : i = 0 := by omega
      rw [pathL_one ds 0 (by omega), stepsL_one]
      refine ⟨rfl, ?_⟩
      match ds, hl with
      | [d], _ => rw [rootL_one]; rfl
theorem path_from (n : Nat) (ds : List (List UInt8)) (i : Nat) (hl : ds.length = n) (hi : i < n) (hn : n ≤ 1048576) : (nodesV (ds.getD i []) i n (pathL ds i)).1 = rootL ds ∧ (nodesV (ds.getD i []) i n (pathL ds i)).2.2 = 0 := by
  obtain ⟨h1, h2⟩ := path_run n ds i hl hi hn
  unfold nodesV
  rw [if_pos (by omega), Int.toNat_natCast, Int.toNat_natCast, if_pos h1]
  exact ⟨h2, rfl⟩

/-! ### The walk -/
def IncAt (m : Nat) : Prop := ∀ (w : World) (p : Nat) (A : Option Addr) (n c : Nat) (mb : Option Nat) (ds : List (List UInt8)) (C : Nat → Nat → Prop) (f k i : Nat), TreeC w p A n c mb ds C → Full C n → n ≤ 1048576 → ShaTab w → i < m → f + m ≤ n → m ≤ 2 ^ k → 2 ^ k ∣ f →
  Calls Tryd.prog 60 #[.pointer (some ⟨p, 0, none⟩), .int .i64 i, .int .i64 f, .int .i64 m] w (Owned w (pathL ((ds.drop f).take m) i).length (pathL ((ds.drop f).take m) i))

set_option maxRecDepth 100000 in
set_option maxHeartbeats 1000000 in
theorem include_one : IncAt 1 := by
  intro w p A n c mb ds C f k i _ _ _ _ _ _ _ _
  rw [pathL_one _ _ (by rw [List.length_take]; omega)]
  go_enter Tryd.func60, Tryd.ntmps60
  go_wp2
  go_ret
  exact ⟨_, rfl, Grew.start ⟨rfl, .inl ⟨rfl, rfl⟩⟩⟩

set_option maxRecDepth 100000 in
set_option maxHeartbeats 2000000 in
theorem include_more (m : Nat) (ih : ∀ j, j < m → IncAt j) (h2 : 2 ≤ m) : IncAt m := by
  intro w p A n c mb ds C f k i hT hF hn hS hi hfm hmk hdv
  obtain ⟨i0, hi0, hz0, hz1, hz2⟩ := info_parts infoDp
  obtain ⟨a, b, c1⟩ := leftN_bounds m h2 (by omega)
  obtain ⟨lv, hlv⟩ : ∃ lv, leftN m = 2 ^ lv := ⟨_, rfl⟩
  have hk : lv ≤ k := pow_lt_exp (by omega)
  have dv : 2 ^ lv ∣ f := dvd_pow_le hk hdv
  have hlen : ((ds.drop f).take m).length = m := by rw [List.length_take, List.length_drop, hT.len]; omega
  have CS := Lib.hid (fun w => leftSize_any m w h2 (by omega))
  obtain ⟨P, hP⟩ : ∃ P, P = leftN m := ⟨_, rfl⟩
  rw [← hP] at CS a b c1 hlv
  have e := pathL_more _ i m hlen h2 (by omega)
  rw [← hP, take_take_le _ (by omega), List.drop_take, List.drop_drop] at e
  obtain ⟨f2, hf2⟩ : ∃ f2 : Nat, f2 = f + P := ⟨_, rfl⟩
  obtain ⟨m2, hm2⟩ : ∃ m2 : Nat, m2 = m - P := ⟨_, rfl⟩
  rw [← hf2, ← hm2] at e
  have s1 : (f : Int) + (P : Int) = (f2 : Int) := by omega
  have s2 : (m : Int) - (P : Int) = (m2 : Int) := by omega
  have f4 : f ≤ 1048576 := by omega
  have f24 : f2 ≤ 1048576 := by omega
  have m4 : m ≤ 1048576 := by omega
  have m24 : m2 ≤ 1048576 := by omega
  have P4 : P ≤ 1048576 := by omega
  have i4 : i ≤ 1048576 := by omega
  have m1 : ((m : Int) == 1) = false := by rw [beq_eq_false_iff_ne]; omega
  have g1 : Hid (¬ 1 * i0.size > 2 ^ 24) := by simp only [Hid]; rw [hz1]; omega
  have g2 : Hid (¬ 1 * i0.size = 0) := by simp only [Hid]; rw [hz1]; omega
  have l20 : ∀ (l : List (List UInt8)) (j : Nat), l.length ≤ 1048576 → (pathL l j).length ≤ 20 := fun l j h => pathL_depth 20 l j h h
  by_cases hik : i < P
  · rw [if_pos hik] at e
    rw [e]
    have CI : Hid (∀ w', Fr Nothing w w' → Calls Tryd.prog 60 #[.pointer (some ⟨p, 0, none⟩), .int .i64 i, .int .i64 f, .int .i64 P] w' (Owned w' (pathL ((ds.drop f).take P) i).length (pathL ((ds.drop f).take P) i))) :=
      fun w' hf => ih P a w' p A n c mb ds C f lv i (hT.fr0 hf) hF hn (hS.fr0 hf) hik (by omega) (by omega) dv
    have CR : Hid (∀ w', Fr Nothing w w' → Calls Tryd.prog 61 #[.pointer (some ⟨p, 0, none⟩), .int .i64 f2, .int .i64 m2] w' (Same' w' (digV (rootL ((ds.drop f2).take m2))))) :=
      fun w' hf => root_at m2 (by omega) w' p A n c mb ds C f2 lv (hT.fr0 hf) hF hn (hS.fr0 hf) (by omega) (by omega) (by omega) (by rw [hf2, hlv]; exact (Nat.dvd_add_right dv).2 (Nat.dvd_refl _))
    have lr : (rootL ((ds.drop f2).take m2)).length = 32 := rootL_length m2 _ (by rw [List.length_take, List.length_drop, hT.len]; omega) (by omega) (by omega) (fun d hd => hT.each d (List.mem_of_mem_drop (List.mem_of_mem_take hd)))
    have lp := l20 ((ds.drop f).take P) i (by rw [List.length_take]; omega)
    have iI : (i : Int) < (P : Int) := by omega
    generalize pathL ((ds.drop f).take P) i = PL at *
    generalize rootL ((ds.drop f2).take m2) = RT at *
    have HF : Hid (Instr.fill (fun i => some (i * 32, 32)) ((Array.range (1 * 32)).map (zero32.cells[· % zero32.cells.size]!)) [(0, .agg (digC RT).toArray)] = some (digC RT).toArray) := fill_one _ _ (by simp [digC, lr]) (by simp)
    have HL : Hid ((digC RT).toArray.size = 1 * 32) := by simp [Hid, digC, lr]
    have HO : Hid (∀ u ∈ (digC RT).toArray.toList, u.oneCell' = true) := by
      intro u hu
      exact oneCell_bvI _ u (by simpa [digC] using hu)
    have HT2 : Hid ((PL ++ [RT]).flatMap digC = PL.flatMap digC ++ digC RT ∧ (PL ++ [RT]).length = PL.length + 1) := ⟨by rw [List.flatMap_append, List.flatMap_singleton], by simp⟩
    unfold digV at CR
    simp only [show ∀ l : List UInt8, l.map bvI = digC l from fun _ => rfl] at CR
    generalize digC RT = RV at *
    have g3 : Hid (Instr.fill (fun i => some (i * i0.size, i0.size)) ((Array.range (1 * i0.size)).map (zero32.cells[· % zero32.cells.size]!)) [(0, .agg RV.toArray)] = some RV.toArray) := by simp only [Hid]; rw [hz1]; exact HF.out
    clear hT hF hS hP hf2 hm2 hfm hmk hdv dv hk hlen ih h2 a b c1 hlv e lr l20
    go_enter Tryd.func60, Tryd.ntmps60
    go_wp2_with fail
    refine (CS.out _).mono ?_
    rintro e w' ⟨rfl, rfl⟩
    go_wp2_with fail
    refine (CI.out _ (Fr.refl _ _)).mono ?_
    rintro e w1 ⟨v1, rfl, hG⟩
    have G1 := Lib.hid hG
    obtain ⟨A1, n1, c1, rfl, H1, _⟩ := own_slice hG.own
    clear hG
    go_wp2_with fail
    refine (CR.out _ G1.out.fr0).mono ?_
    rintro e w2 ⟨rfl, f2'⟩
    have G2 := Lib.hid (G1.out.behind f2')
    clear f2' G1
    go_wp2_with (refine wpList_buildSlice rfl 29 24 1 #[(0, .tmp 29)] rfl RV.toArray i0 zero32 Tryd.underlying29 hi0 hz0 g1.out g2.out (by simp only [List.map_toArray, List.map_cons, List.map_nil]; exact g3.out) (Held.go ?hold))
    unfold Held
    refine wpList_app1 _ rfl _ _ 29 rfl 24 i0 zero32 32 32 Tryd.underlying29 hi0 hz0 hz1 hz2 rfl (by omega) _ _ _ rfl G2.out.own 1 RV.toArray _ rfl rfl HL.out HO.out (by omega) (by omega) ?_
    intro v3 w3 hG3
    have K3 : Hid (Grew 24 32 w (.slice none 0 0) w3 v3 (PL ++ [RT]).length ((PL ++ [RT]).flatMap digC)) := by
      have h := G2.out.trans hG3
      simp only [Hid]
      rw [HT2.out.1, HT2.out.2]
      exact h
    clear hG3
    go_wp2
    go_ret
    exact ⟨_, rfl, K3.out⟩
  · rw [if_neg hik] at e
    rw [e]
    obtain ⟨i2, hi2⟩ : ∃ i2 : Nat, i2 = i - P := ⟨_, rfl⟩
    rw [← hi2]
    have s3 : (i : Int) - (P : Int) = (i2 : Int) := by omega
    have i24 : i2 ≤ 1048576 := by omega
    have CI : Hid (∀ w', Fr Nothing w w' → Calls Tryd.prog 60 #[.pointer (some ⟨p, 0, none⟩), .int .i64 i2, .int .i64 f2, .int .i64 m2] w' (Owned w' (pathL ((ds.drop f2).take m2) i2).length (pathL ((ds.drop f2).take m2) i2))) :=
      fun w' hf => ih m2 (by omega) w' p A n c mb ds C f2 lv i2 (hT.fr0 hf) hF hn (hS.fr0 hf) (by omega) (by omega) (by omega) (by rw [hf2, hlv]; exact (Nat.dvd_add_right dv).2 (Nat.dvd_refl _))
    have CR : Hid (∀ w', Fr Nothing w w' → Calls Tryd.prog 61 #[.pointer (some ⟨p, 0, none⟩), .int .i64 f, .int .i64 P] w' (Same' w' (digV (rootL ((ds.drop f).take P))))) :=
      fun w' hf => root_at P (by omega) w' p A n c mb ds C f lv (hT.fr0 hf) hF hn (hS.fr0 hf) (by omega) (by omega) (by omega) dv
    have lr : (rootL ((ds.drop f).take P)).length = 32 := rootL_length P _ (by rw [List.length_take, List.length_drop, hT.len]; omega) (by omega) (by omega) (fun d hd => hT.each d (List.mem_of_mem_drop (List.mem_of_mem_take hd)))
    have lp := l20 ((ds.drop f2).take m2) i2 (by rw [List.length_take]; omega)
    have iI : decide ((i : Int) < (P : Int)) = false := decide_eq_false (by omega)
    have iN : ¬ i < P := by omega
    generalize pathL ((ds.drop f2).take m2) i2 = PL at *
    generalize rootL ((ds.drop f).take P) = RT at *
    have HF : Hid (Instr.fill (fun i => some (i * 32, 32)) ((Array.range (1 * 32)).map (zero32.cells[· % zero32.cells.size]!)) [(0, .agg (digC RT).toArray)] = some (digC RT).toArray) := fill_one _ _ (by simp [digC, lr]) (by simp)
    have HL : Hid ((digC RT).toArray.size = 1 * 32) := by simp [Hid, digC, lr]
    have HO : Hid (∀ u ∈ (digC RT).toArray.toList, u.oneCell' = true) := by
      intro u hu
      exact oneCell_bvI _ u (by simpa [digC] using hu)
    have HT2 : Hid ((PL ++ [RT]).flatMap digC = PL.flatMap digC ++ digC RT ∧ (PL ++ [RT]).length = PL.length + 1) := ⟨by rw [List.flatMap_append, List.flatMap_singleton], by simp⟩
    unfold digV at CR
    simp only [show ∀ l : List UInt8, l.map bvI = digC l from fun _ => rfl] at CR
    generalize digC RT = RV at *
    have g3 : Hid (Instr.fill (fun i => some (i * i0.size, i0.size)) ((Array.range (1 * i0.size)).map (zero32.cells[· % zero32.cells.size]!)) [(0, .agg RV.toArray)] = some RV.toArray) := by simp only [Hid]; rw [hz1]; exact HF.out
    clear hT hF hS hP hf2 hm2 hi2 hfm hmk hdv dv hk hlen ih h2 a b c1 hlv e lr l20
    go_enter Tryd.func60, Tryd.ntmps60
    go_wp2_with fail
    refine (CS.out _).mono ?_
    rintro e w' ⟨rfl, rfl⟩
    go_wp2_with fail
    refine (CI.out _ (Fr.refl _ _)).mono ?_
    rintro e w1 ⟨v1, rfl, hG⟩
    have G1 := Lib.hid hG
    obtain ⟨A1, n1, c1, rfl, H1, _⟩ := own_slice hG.own
    clear hG
    go_wp2_with fail
    refine (CR.out _ G1.out.fr0).mono ?_
    rintro e w2 ⟨rfl, f2'⟩
    have G2 := Lib.hid (G1.out.behind f2')
    clear f2' G1
    go_wp2_with (refine wpList_buildSlice rfl 29 24 1 #[(0, .tmp 46)] rfl RV.toArray i0 zero32 Tryd.underlying29 hi0 hz0 g1.out g2.out (by simp only [List.map_toArray, List.map_cons, List.map_nil]; exact g3.out) (Held.go ?hold2))
    unfold Held
    refine wpList_app1 _ rfl _ _ 29 rfl 24 i0 zero32 32 32 Tryd.underlying29 hi0 hz0 hz1 hz2 rfl (by omega) _ _ _ rfl G2.out.own 1 RV.toArray _ rfl rfl HL.out HO.out (by omega) (by omega) ?_
    intro v3 w3 hG3
    have K3 : Hid (Grew 24 32 w (.slice none 0 0) w3 v3 (PL ++ [RT]).length ((PL ++ [RT]).flatMap digC)) := by
      have h := G2.out.trans hG3
      simp only [Hid]
      rw [HT2.out.1, HT2.out.2]
      exact h
    clear hG3
    go_wp2
    go_ret
    exact ⟨_, rfl, K3.out⟩

theorem include_at (m : Nat) (hm : 1 ≤ m) : IncAt m := by
  induction m using Nat.strongRecOn with
  | _ m ih =>
    by_cases h2 : 2 ≤ m
    · refine include_more m (fun j hj => ?_) h2
      rcases Nat.eq_zero_or_pos j with rfl | h1
      · intro w p A n c mb ds C f k i _ _ _ _ h
        omega
      · exact ih j hj h1
    · obtain rfl : m = 1 := by omega
      exact include_one
end Go.Proofs.YtkaghbpdnmigmaaDoor
