/- Tree.extension, Tree.Extend: written by genTrJ.py. -/
import Derived.Test.YtkaghbpdnmigmaaDoorTrI
import Derived.Test.YtkaghbpdnmigmaaDoorTrH
namespace Go.Proofs.YtkaghbpdnmigmaaDoor
open Go.RowKit

theorem Grew.lit1 {e : TypeId} {size : Nat} {w w1 w2 : World} {cells : Array Value} {xs : List Value} (h : Fr Nothing w w1) (hn : NewBlk w1 w2 e cells) (hc : cells.toList = xs) (hs : xs.length = 1 * size) : Grew e size w (.slice none 0 0) w2 (.slice (some ⟨w1.heap.size, 0, none⟩) 1 1) 1 xs := by
  have hz : cells.size = 1 * size := by rw [← hs, ← hc, Array.length_toList]
  refine ⟨⟨hs, .inr ⟨w1.heap.size, 1, cells, rfl, Nat.zero_le _, hn.blk, Nat.le_refl _, by decide, hz, ?_⟩⟩, (h.trans hn.fr).weak, fun k hk => ?_⟩
  · rw [hc, List.take_of_length_le (by omega)]
  · simp only [Value.ownBlock, Option.some.injEq] at hk
    have := h.size
    omega

def ExtAt (n : Nat) : Prop := ∀ (w : World) (p : Nat) (A : Option Addr) (N c : Nat) (mb : Option Nat) (ds : List (List UInt8)) (C : Nat → Nat → Prop) (f k m : Nat) (whole : Bool), TreeC w p A N c mb ds C → Full C N → N ≤ 1048576 → ShaTab w → 1 ≤ m → m ≤ n → f + n ≤ N → n ≤ 2 ^ k → 2 ^ k ∣ f →
  Calls Tryd.prog 62 #[.pointer (some ⟨p, 0, none⟩), .int .i64 m, .int .i64 f, .int .i64 n, .bool whole] w (Owned w (extL ((ds.drop f).take n) m whole).length (extL ((ds.drop f).take n) m whole))

set_option maxRecDepth 100000 in
set_option maxHeartbeats 1000000 in
theorem ext_whole (p f m : Nat) (w : World) (ds : List (List UInt8)) (hm : ds.length = m) :
    Calls Tryd.prog 62 #[.pointer (some ⟨p, 0, none⟩), .int .i64 m, .int .i64 f, .int .i64 m, .bool true] w (Owned w (extL ds m true).length (extL ds m true)) := by
  rw [extL_eq _ _ _ hm, if_pos rfl]
  clear hm
  go_enter Tryd.func62, Tryd.ntmps62
  go_wp2
  go_ret
  exact ⟨_, rfl, Grew.start ⟨rfl, .inl ⟨rfl, rfl⟩⟩⟩

set_option maxRecDepth 100000 in
set_option maxHeartbeats 2000000 in
theorem ext_part (w : World) (p : Nat) (A : Option Addr) (N c : Nat) (mb : Option Nat) (ds : List (List UInt8)) (C : Nat → Nat → Prop) (f k m : Nat) (hT : TreeC w p A N c mb ds C) (hF : Full C N) (hN : N ≤ 1048576) (hS : ShaTab w) (h1 : 1 ≤ m) (hfn : f + m ≤ N) (hnk : m ≤ 2 ^ k) (hdv : 2 ^ k ∣ f) :
    Calls Tryd.prog 62 #[.pointer (some ⟨p, 0, none⟩), .int .i64 m, .int .i64 f, .int .i64 m, .bool false] w (Owned w (extL ((ds.drop f).take m) m false).length (extL ((ds.drop f).take m) m false)) := by
  have hlen : ((ds.drop f).take m).length = m := by rw [List.length_take, List.length_drop, hT.len]; omega
  rw [extL_eq _ _ _ hlen, if_neg (by decide)]
  obtain ⟨i0, hi0, hz0, hz1, hz2⟩ := info_parts infoDp
  have g1 : Hid (¬ 1 * i0.size > 2 ^ 24) := by simp only [Hid]; rw [hz1]; omega
  have g2 : Hid (¬ 1 * i0.size = 0) := by simp only [Hid]; rw [hz1]; omega
  have CR : Hid (∀ w', Fr Nothing w w' → Calls Tryd.prog 61 #[.pointer (some ⟨p, 0, none⟩), .int .i64 f, .int .i64 m] w' (Same' w' (digV (rootL ((ds.drop f).take m))))) :=
    fun w' hf => root_at m (by omega) w' p A N c mb ds C f k (hT.fr0 hf) hF hN (hS.fr0 hf) (by omega) (by omega) hnk hdv
  have lr : (rootL ((ds.drop f).take m)).length = 32 := rootL_length m _ hlen (by omega) (by omega) (fun d hd => hT.each d (List.mem_of_mem_drop (List.mem_of_mem_take hd)))
  generalize rootL ((ds.drop f).take m) = RT at *
  have HF : Hid (Instr.fill (fun i => some (i * 32, 32)) ((Array.range (1 * 32)).map (zero32.cells[· % zero32.cells.size]!)) [(0, .agg (digC RT).toArray)] = some (digC RT).toArray) := fill_one _ _ (by simp [digC, lr]) (by simp)
  have HC : Hid ((digC RT).toArray.toList = [RT].flatMap digC ∧ ([RT].flatMap digC).length = 1 * 32) := ⟨by simp, by simp [digC, lr]⟩
  have HC1 : Hid ([RT].length = 1) := rfl
  unfold digV at CR
  simp only [show ∀ l : List UInt8, l.map bvI = digC l from fun _ => rfl] at CR
  generalize [RT].length = R1 at *
  generalize digC RT = RV at *
  have g3 : Hid (Instr.fill (fun i => some (i * i0.size, i0.size)) ((Array.range (1 * i0.size)).map (zero32.cells[· % zero32.cells.size]!)) [(0, .agg RV.toArray)] = some RV.toArray) := by simp only [Hid]; rw [hz1]; exact HF.out
  have f4 : f ≤ 1048576 := by omega
  have m4 : m ≤ 1048576 := by omega
  clear hT hF hS hfn hnk hdv hlen h1
  go_enter Tryd.func62, Tryd.ntmps62
  go_wp2_with fail
  refine (CR.out _ (Fr.refl _ _)).mono ?_
  rintro e w1 ⟨rfl, f1⟩
  have F1 := Lib.hid f1
  clear f1
  go_wp2_with (refine wpList_buildSlice rfl 29 24 1 #[(0, .tmp 26)] rfl RV.toArray i0 zero32 Tryd.underlying29 hi0 hz0 g1.out g2.out (by simp only [List.map_toArray, List.map_cons, List.map_nil]; exact g3.out) (Held.go ?hold))
  unfold Held
  have K3 : Hid (Grew 24 32 w (.slice none 0 0) (w1.alloc (.cells RV.toArray 24)) (.slice (some ⟨w1.heap.size, 0, none⟩) 1 1) R1 ([RT].flatMap digC)) := by
    have := Grew.lit1 F1.out (NewBlk.alloc w1 24 RV.toArray) HC.out.1 HC.out.2
    simp only [Hid]
    rw [show R1 = 1 from HC1.out]
    exact this
  generalize w1.alloc (.cells RV.toArray 24) = w2 at *
  generalize w1.heap.size = gz at *
  go_wp2
  go_ret
  exact ⟨_, rfl, K3.out⟩

set_option maxRecDepth 100000 in
set_option maxHeartbeats 2000000 in
theorem ext_more (n : Nat) (ih : ∀ j, j < n → ExtAt j) (w : World) (p : Nat) (A : Option Addr) (N c : Nat) (mb : Option Nat) (ds : List (List UInt8)) (C : Nat → Nat → Prop) (f k m : Nat) (whole : Bool) (hT : TreeC w p A N c mb ds C) (hF : Full C N) (hN : N ≤ 1048576) (hS : ShaTab w) (h1 : 1 ≤ m) (hmn : m < n) (hfn : f + n ≤ N) (hnk : n ≤ 2 ^ k) (hdv : 2 ^ k ∣ f) :
    Calls Tryd.prog 62 #[.pointer (some ⟨p, 0, none⟩), .int .i64 m, .int .i64 f, .int .i64 n, .bool whole] w (Owned w (extL ((ds.drop f).take n) m whole).length (extL ((ds.drop f).take n) m whole)) := by
  obtain ⟨i0, hi0, hz0, hz1, hz2⟩ := info_parts infoDp
  obtain ⟨a, b, c1⟩ := leftN_bounds n (by omega) (by omega)
  obtain ⟨lv, hlv⟩ : ∃ lv, leftN n = 2 ^ lv := ⟨_, rfl⟩
  have hk : lv ≤ k := pow_lt_exp (by omega)
  have dv : 2 ^ lv ∣ f := dvd_pow_le hk hdv
  have hlen : ((ds.drop f).take n).length = n := by rw [List.length_take, List.length_drop, hT.len]; omega
  have CS := Lib.hid (fun w => leftSize_any n w (by omega) (by omega))
  have eL := fun h => extL_left _ m n whole hlen (by omega) (by omega) (by omega) h
  have eR := fun h => extL_right _ m n whole hlen (by omega) (by omega) (by omega) h
  obtain ⟨P, hP⟩ : ∃ P, P = leftN n := ⟨_, rfl⟩
  rw [← hP] at CS a b c1 hlv eL eR
  rw [take_take_le _ (by omega), List.drop_take, List.drop_drop] at eL eR
  obtain ⟨f2, hf2⟩ : ∃ f2 : Nat, f2 = f + P := ⟨_, rfl⟩
  obtain ⟨n2, hn2⟩ : ∃ n2 : Nat, n2 = n - P := ⟨_, rfl⟩
  rw [← hf2, ← hn2] at eL eR
  have s1 : (f : Int) + (P : Int) = (f2 : Int) := by omega
  have s2 : (n : Int) - (P : Int) = (n2 : Int) := by omega
  have f4 : f ≤ 1048576 := by omega
  have f24 : f2 ≤ 1048576 := by omega
  have n4 : n ≤ 1048576 := by omega
  have n24 : n2 ≤ 1048576 := by omega
  have P4 : P ≤ 1048576 := by omega
  have m4 : m ≤ 1048576 := by omega
  have t1 : ((m : Int) == (n : Int)) = false := by rw [beq_eq_false_iff_ne]; omega
  have t2 : ¬ m = n := by omega
  have g1 : Hid (¬ 1 * i0.size > 2 ^ 24) := by simp only [Hid]; rw [hz1]; omega
  have g2 : Hid (¬ 1 * i0.size = 0) := by simp only [Hid]; rw [hz1]; omega
  have l21 : ∀ (l : List (List UInt8)) (q j : Nat) (x : Bool), l.length = q → q ≤ 1048576 → 1 ≤ j → j ≤ q → (extL l j x).length ≤ 21 := fun l q j x h hq h1 hj => by
    rw [extL_length q l j x h h1 hj hq]
    exact extLen_depth 20 q j x h1 hj hq hq
  by_cases hik : m ≤ P
  · rw [eL hik]
    have CI : Hid (∀ w', Fr Nothing w w' → Calls Tryd.prog 62 #[.pointer (some ⟨p, 0, none⟩), .int .i64 m, .int .i64 f, .int .i64 P, .bool whole] w' (Owned w' (extL ((ds.drop f).take P) m whole).length (extL ((ds.drop f).take P) m whole))) :=
      fun w' hf => ih P a w' p A N c mb ds C f lv m whole (hT.fr0 hf) hF hN (hS.fr0 hf) h1 hik (by omega) (by omega) dv
    have CR : Hid (∀ w', Fr Nothing w w' → Calls Tryd.prog 61 #[.pointer (some ⟨p, 0, none⟩), .int .i64 f2, .int .i64 n2] w' (Same' w' (digV (rootL ((ds.drop f2).take n2))))) :=
      fun w' hf => root_at n2 (by omega) w' p A N c mb ds C f2 lv (hT.fr0 hf) hF hN (hS.fr0 hf) (by omega) (by omega) (by omega) (by rw [hf2, hlv]; exact (Nat.dvd_add_right dv).2 (Nat.dvd_refl _))
    have lr : (rootL ((ds.drop f2).take n2)).length = 32 := rootL_length n2 _ (by rw [List.length_take, List.length_drop, hT.len]; omega) (by omega) (by omega) (fun d hd => hT.each d (List.mem_of_mem_drop (List.mem_of_mem_take hd)))
    have lp := l21 ((ds.drop f).take P) P m whole (by rw [List.length_take, List.length_drop, hT.len]; omega) (by omega) h1 hik
    have iI : (m : Int) ≤ (P : Int) := by omega
    generalize extL ((ds.drop f).take P) m whole = PL at *
    generalize rootL ((ds.drop f2).take n2) = RT at *
    have HF : Hid (Instr.fill (fun i => some (i * 32, 32)) ((Array.range (1 * 32)).map (zero32.cells[· % zero32.cells.size]!)) [(0, .agg (digC RT).toArray)] = some (digC RT).toArray) := fill_one _ _ (by simp [digC, lr]) (by simp)
    have HL : Hid ((digC RT).toArray.size = 1 * 32) := by simp [Hid, digC, lr]
    have HO : Hid (∀ u ∈ (digC RT).toArray.toList, u.oneCell' = true) := by
      intro u hu
      exact oneCell_bvI _ u (by simpa [digC] using hu)
    have HT2 : Hid ((PL ++ [RT]).flatMap digC = PL.flatMap digC ++ digC RT ∧ (PL ++ [RT]).length = PL.length + 1) := ⟨by rw [List.flatMap_append, List.flatMap_singleton], by simp⟩
    unfold digV at CR
    simp only [show ∀ l : List UInt8, l.map bvI = digC l from fun _ => rfl] at CR
    generalize digC RT = RV at *
    have g3 : Hid (Instr.fill (fun i => some (i * i0.size, i0.size)) ((Array.range (1 * i0.size)).map (zero32.cells[· % zero32.cells.size]!)) [(0, .agg RV.toArray)] = some RV.toArray) := by simp only [Hid]; rw [hz1]; exact HF.out
    clear hT hF hS hP hf2 hn2 hfn hnk hdv dv hk hlen ih a b c1 hlv eL eR lr l21 hmn h1
    go_enter Tryd.func62, Tryd.ntmps62
    go_wp2_with fail
    refine (CS.out _).mono ?_
    rintro e w' ⟨rfl, rfl⟩
    go_wp2_with fail
    refine (CI.out _ (Fr.refl _ _)).mono ?_
    rintro e w1 ⟨v1, rfl, hG⟩
    have G1 := Lib.hid hG
    obtain ⟨A1, n1, c1, rfl, H1, _⟩ := own_slice hG.own
    clear hG
    go_wp2_with fail
    refine (CR.out _ G1.out.fr0).mono ?_
    rintro e w2 ⟨rfl, f2'⟩
    have G2 := Lib.hid (G1.out.behind f2')
    clear f2' G1
    go_wp2_with (refine wpList_buildSlice rfl 29 24 1 #[(0, .tmp 46)] rfl RV.toArray i0 zero32 Tryd.underlying29 hi0 hz0 g1.out g2.out (by simp only [List.map_toArray, List.map_cons, List.map_nil]; exact g3.out) (Held.go ?hold))
    unfold Held
    refine wpList_app1 _ rfl _ _ 29 rfl 24 i0 zero32 32 32 Tryd.underlying29 hi0 hz0 hz1 hz2 rfl (by omega) _ _ _ rfl G2.out.own 1 RV.toArray _ rfl rfl HL.out HO.out (by omega) (by omega) ?_
    intro v3 w3 hG3
    have K3 : Hid (Grew 24 32 w (.slice none 0 0) w3 v3 (PL ++ [RT]).length ((PL ++ [RT]).flatMap digC)) := by
      have h := G2.out.trans hG3
      simp only [Hid]
      rw [HT2.out.1, HT2.out.2]
      exact h
    clear hG3
    go_wp2
    go_ret
    exact ⟨_, rfl, K3.out⟩
  · rw [eR hik]
    obtain ⟨m2, hm2⟩ : ∃ m2 : Nat, m2 = m - P := ⟨_, rfl⟩
    rw [← hm2]
    have s3 : (m : Int) - (P : Int) = (m2 : Int) := by omega
    have m24 : m2 ≤ 1048576 := by omega
    have CI : Hid (∀ w', Fr Nothing w w' → Calls Tryd.prog 62 #[.pointer (some ⟨p, 0, none⟩), .int .i64 m2, .int .i64 f2, .int .i64 n2, .bool false] w' (Owned w' (extL ((ds.drop f2).take n2) m2 false).length (extL ((ds.drop f2).take n2) m2 false))) :=
      fun w' hf => ih n2 (by omega) w' p A N c mb ds C f2 lv m2 false (hT.fr0 hf) hF hN (hS.fr0 hf) (by omega) (by omega) (by omega) (by omega) (by rw [hf2, hlv]; exact (Nat.dvd_add_right dv).2 (Nat.dvd_refl _))
    have CR : Hid (∀ w', Fr Nothing w w' → Calls Tryd.prog 61 #[.pointer (some ⟨p, 0, none⟩), .int .i64 f, .int .i64 P] w' (Same' w' (digV (rootL ((ds.drop f).take P))))) :=
      fun w' hf => root_at P (by omega) w' p A N c mb ds C f lv (hT.fr0 hf) hF hN (hS.fr0 hf) (by omega) (by omega) (by omega) dv
    have lr : (rootL ((ds.drop f).take P)).length = 32 := rootL_length P _ (by rw [List.length_take, List.length_drop, hT.len]; omega) (by omega) (by omega) (fun d hd => hT.each d (List.mem_of_mem_drop (List.mem_of_mem_take hd)))
    have lp := l21 ((ds.drop f2).take n2) n2 m2 false (by rw [List.length_take, List.length_drop, hT.len]; omega) (by omega) (by omega) (by omega)
    have iI : decide ((m : Int) ≤ (P : Int)) = false := decide_eq_false (by omega)
    have iN : ¬ m ≤ P := hik
    generalize extL ((ds.drop f2).take n2) m2 false = PL at *
    generalize rootL ((ds.drop f).take P) = RT at *
    have HF : Hid (Instr.fill (fun i => some (i * 32, 32)) ((Array.range (1 * 32)).map (zero32.cells[· % zero32.cells.size]!)) [(0, .agg (digC RT).toArray)] = some (digC RT).toArray) := fill_one _ _ (by simp [digC, lr]) (by simp)
    have HL : Hid ((digC RT).toArray.size = 1 * 32) := by simp [Hid, digC, lr]
    have HO : Hid (∀ u ∈ (digC RT).toArray.toList, u.oneCell' = true) := by
      intro u hu
      exact oneCell_bvI _ u (by simpa [digC] using hu)
    have HT2 : Hid ((PL ++ [RT]).flatMap digC = PL.flatMap digC ++ digC RT ∧ (PL ++ [RT]).length = PL.length + 1) := ⟨by rw [List.flatMap_append, List.flatMap_singleton], by simp⟩
    unfold digV at CR
    simp only [show ∀ l : List UInt8, l.map bvI = digC l from fun _ => rfl] at CR
    generalize digC RT = RV at *
    have g3 : Hid (Instr.fill (fun i => some (i * i0.size, i0.size)) ((Array.range (1 * i0.size)).map (zero32.cells[· % zero32.cells.size]!)) [(0, .agg RV.toArray)] = some RV.toArray) := by simp only [Hid]; rw [hz1]; exact HF.out
    clear hT hF hS hP hf2 hn2 hfn hnk hdv dv hk hlen ih a b c1 hlv eL eR lr l21 hm2 hmn h1 hik
    go_enter Tryd.func62, Tryd.ntmps62
    go_wp2_with fail
    refine (CS.out _).mono ?_
    rintro e w' ⟨rfl, rfl⟩
    go_wp2_with fail
    refine (CI.out _ (Fr.refl _ _)).mono ?_
    rintro e w1 ⟨v1, rfl, hG⟩
    have G1 := Lib.hid hG
    obtain ⟨A1, n1, c1, rfl, H1, _⟩ := own_slice hG.own
    clear hG
    go_wp2_with fail
    refine (CR.out _ G1.out.fr0).mono ?_
    rintro e w2 ⟨rfl, f2'⟩
    have G2 := Lib.hid (G1.out.behind f2')
    clear f2' G1
    go_wp2_with (refine wpList_buildSlice rfl 29 24 1 #[(0, .tmp 63)] rfl RV.toArray i0 zero32 Tryd.underlying29 hi0 hz0 g1.out g2.out (by simp only [List.map_toArray, List.map_cons, List.map_nil]; exact g3.out) (Held.go ?hold2))
    unfold Held
    refine wpList_app1 _ rfl _ _ 29 rfl 24 i0 zero32 32 32 Tryd.underlying29 hi0 hz0 hz1 hz2 rfl (by omega) _ _ _ rfl G2.out.own 1 RV.toArray _ rfl rfl HL.out HO.out (by omega) (by omega) ?_
    intro v3 w3 hG3
    have K3 : Hid (Grew 24 32 w (.slice none 0 0) w3 v3 (PL ++ [RT]).length ((PL ++ [RT]).flatMap digC)) := by
      have h := G2.out.trans hG3
      simp only [Hid]
      rw [HT2.out.1, HT2.out.2]
      exact h
    clear hG3
    go_wp2
    go_ret
    exact ⟨_, rfl, K3.out⟩

theorem extension_at (n : Nat) : ExtAt n := by
  induction n using Nat.strongRecOn with
  | _ n ih =>
    intro w p A N c mb ds C f k m whole hT hF hN hS h1 hmn hfn hnk hdv
    rcases Nat.lt_or_ge m n with h | h
    · exact ext_more n ih w p A N c mb ds C f k m whole hT hF hN hS h1 h hfn hnk hdv
    · obtain rfl : m = n := by omega
      cases whole
      · exact ext_part w p A N c mb ds C f k m hT hF hN hS h1 hfn hnk hdv
      · exact ext_whole p f m w _ (by rw [List.length_take, List.length_drop, hT.len]; omega)

/-! ### Extend -/

def extT (ds : List (List UInt8)) (m n : Int) : List (List UInt8) × Int :=
  if 0 ≤ n ∧ n ≤ ds.length then (if 0 ≤ m ∧ m ≤ n then (if m = 0 then ([], 0) else (extL (ds.take n.toNat) m.toNat true, 0)) else ([], 2)) else ([], 2)
theorem extT_zero (ds : List (List UInt8)) (n : Nat) (h : n ≤ ds.length) : extT ds 0 n = ([], 0) := by
  unfold extT
  rw [if_pos (by omega), if_pos (by omega), if_pos rfl]
theorem extT_pos (ds : List (List UInt8)) (m n : Nat) (h : n ≤ ds.length) (h1 : 1 ≤ m) (hm : m ≤ n) : extT ds m n = (extL (ds.take n) m true, 0) := by
  unfold extT
  rw [if_pos (by omega), if_pos (by omega), if_neg (by omega), Int.toNat_natCast, Int.toNat_natCast]
theorem extT_out (ds : List (List UInt8)) (m n : Int) (h : ¬ (0 ≤ n ∧ n ≤ ds.length) ∨ ¬ (0 ≤ m ∧ m ≤ n)) : extT ds m n = ([], 2) := by
  unfold extT
  split
  · rw [if_neg (by omega)]
  · rfl
theorem extT_each (ds : List (List UInt8)) (m n : Int) (hn : ds.length ≤ 1048576) (he : ∀ d ∈ ds, d.length = 32) : ∀ d ∈ (extT ds m n).1, d.length = 32 := by
  unfold extT
  intro d hd
  split at hd
  · split at hd
    · split at hd
      · cases hd
      · exact extL_each n.toNat (ds.take n.toNat) m.toNat true (by rw [List.length_take]; omega) (by omega) (by omega) (by omega) (fun x hx => he x (List.mem_of_mem_take hx)) d hd
    · cases hd
  · cases hd

set_option maxRecDepth 100000 in
set_option maxHeartbeats 2000000 in
theorem Extend_any (w0 w : World) (p : Nat) (ds : List (List UInt8)) (m k : Int) (hT : TreeN w0 w p ds) (hn : ds.length ≤ 1048576) (hS : ShaTab w) (hi : -9223372036854775808 ≤ m ∧ m ≤ 9223372036854775807) (hk : -9223372036854775808 ≤ k ∧ k ≤ 9223372036854775807) :
    Calls Tryd.prog 33 #[.pointer (some ⟨p, 0, none⟩), .int .i64 m, .int .i64 k] w (PathR w (extT ds m k)) := by
  obtain ⟨A, c, mb, h1, h2, h3⟩ := hT
  obtain ⟨n, hnn⟩ : ∃ n, n = ds.length := ⟨_, rfl⟩
  have C1 : Hid (∀ w', Calls Tryd.prog 52 #[.int .i64 k, .int .i64 0, .int .i64 n] w' (SameW w' (.bool (decide (0 ≤ k ∧ k ≤ n))))) := fun w' => within_any k 0 n w'
  have P0 : w.cell? ⟨p, 0, none⟩ = some (.slice A n c) := by rw [hnn]; exact h1.blk.cell 0
  by_cases hk1 : 0 ≤ k ∧ k ≤ (n : Int)
  · obtain ⟨kn, rfl⟩ : ∃ kn : Nat, k = kn := ⟨k.toNat, by omega⟩
    have C2 : Hid (∀ w', Calls Tryd.prog 52 #[.int .i64 m, .int .i64 0, .int .i64 kn] w' (SameW w' (.bool (decide (0 ≤ m ∧ m ≤ kn))))) := fun w' => within_any m 0 kn w'
    rw [decide_eq_true hk1] at C1
    by_cases hi1 : 0 ≤ m ∧ m ≤ (kn : Int)
    · obtain ⟨mN, rfl⟩ : ∃ mN : Nat, m = mN := ⟨m.toNat, by omega⟩
      rw [decide_eq_true hi1] at C2
      rcases Nat.eq_zero_or_pos mN with rfl | hm0
      · have e : extT ds ((0 : Nat) : Int) kn = ([], 0) := extT_zero ds kn (by omega)
        rw [e]
        have kn4 : kn ≤ 1048576 := by omega
        clear e h1 h2 h3 hS hk1 hi1 hnn
        simp only [Int.natCast_zero] at *
        go_enter Tryd.func33, Tryd.ntmps33
        go_wp2_with fail
        refine (C1.out _).mono ?_
        rintro e w' ⟨rfl, rfl⟩
        go_wp2_with fail
        refine (C2.out _).mono ?_
        rintro e w' ⟨rfl, rfl⟩
        go_wp2
        go_ret2
        exact PathR.none (Fr.refl _ _)
      · have e : extT ds mN kn = (extL (ds.take kn) mN true, 0) := extT_pos ds mN kn (by omega) hm0 (by omega)
        rw [e]
        have CI : Hid (∀ w', Fr Nothing w w' → Calls Tryd.prog 62 #[.pointer (some ⟨p, 0, none⟩), .int .i64 mN, .int .i64 0, .int .i64 kn, .bool true] w' (Owned w' (extL (ds.take kn) mN true).length (extL (ds.take kn) mN true))) := fun w' hf => by
          have h := extension_at kn w' p A ds.length c mb ds (partC ds.length) 0 20 mN true (h1.fr0 hf) (partC_full _) hn (hS.fr0 hf) hm0 (by omega) (by omega) (by omega) (Nat.dvd_zero _)
          rw [List.drop_zero] at h
          exact h
        generalize extL (ds.take kn) mN true = PL at *
        have kn4 : kn ≤ 1048576 := by omega
        have mN4 : mN ≤ 1048576 := by omega
        have tz : ((mN : Int) == 0) = false := by rw [beq_eq_false_iff_ne]; omega
        have tz2 : ¬ mN = 0 := by omega
        clear e h1 h2 h3 hS hk1 hi1 hnn hm0
        go_enter Tryd.func33, Tryd.ntmps33
        go_wp2_with fail
        refine (C1.out _).mono ?_
        rintro e w' ⟨rfl, rfl⟩
        go_wp2_with fail
        refine (C2.out _).mono ?_
        rintro e w' ⟨rfl, rfl⟩
        go_wp2_with fail
        refine (CI.out _ (Fr.refl _ _)).mono ?_
        rintro e w1 ⟨v, rfl, hG⟩
        have HG := Lib.hid hG
        clear hG
        go_wp2
        go_ret2
        exact ⟨v, rfl, HG.out⟩
    · rw [decide_eq_false hi1] at C2
      have e : extT ds m kn = ([], 2) := extT_out ds m kn (.inr hi1)
      rw [e]
      have kn4 : kn ≤ 1048576 := by omega
      clear e h1 h2 h3 hS hk1 hi1 hnn
      go_enter Tryd.func33, Tryd.ntmps33
      go_wp2_with fail
      refine (C1.out _).mono ?_
      rintro e w' ⟨rfl, rfl⟩
      go_wp2_with fail
      refine (C2.out _).mono ?_
      rintro e w' ⟨rfl, rfl⟩
      go_wp2
      go_ret2
      exact PathR.none (Fr.refl _ _)
  · rw [decide_eq_false hk1] at C1
    have e : extT ds m k = ([], 2) := extT_out ds m k (.inl (by rw [← hnn]; exact hk1))
    rw [e]
    clear e h1 h2 h3 hS hk1 hnn
    go_enter Tryd.func33, Tryd.ntmps33
    go_wp2_with fail
    refine (C1.out _).mono ?_
    rintro e w' ⟨rfl, rfl⟩
    go_wp2
    go_ret2
    exact PathR.none (Fr.refl _ _)

end Go.Proofs.YtkaghbpdnmigmaaDoor
