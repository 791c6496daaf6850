/- Steps of the proof of LawPipesLoseNothing: contracts of the functions that the law reaches, for every world that holds what each of them asks. -/
import Derived.Test.YtmpokappjogehaaGreatDoorQAJ
set_option linter.unusedVariables false
set_option linter.unusedSimpArgs false
namespace Go.Proofs.YtmpokappjogehaaGreatDoor
open Go.RowKit Go.Shelf

attribute [local go_sem] Oper.semAt_some

theorem isDigit_any (b : UInt8) (w : World) : Calls Tryz.prog 324 #[.int .u8 b.toNat] w (SameW w (.bool (isD b))) := by
  by_cases h1 : 48 ≤ b.toNat
  · have t1 : decide ((48 : Int) ≤ (b.toNat : Int)) = true := decide_eq_true (by omega)
    by_cases h2 : b.toNat ≤ 57
    · have t2 : decide ((b.toNat : Int) ≤ 57) = true := decide_eq_true (by omega)
      have hD : isD b = true := by simp [isD, h1, h2]
      rw [hD]
      go_enter Tryz.func324, Tryz.ntmps324
      go_wp2
      go_ret
      exact ⟨rfl, rfl⟩
    · have t2 : decide ((b.toNat : Int) ≤ 57) = false := decide_eq_false (by omega)
      have hD : isD b = false := by simp [isD, h2]
      rw [hD]
      go_enter Tryz.func324, Tryz.ntmps324
      go_wp2
      go_ret
      exact ⟨rfl, rfl⟩
  · have t1 : decide ((48 : Int) ≤ (b.toNat : Int)) = false := decide_eq_false (by omega)
    have hD : isD b = false := by simp [isD, h1]
    rw [hD]
    go_enter Tryz.func324, Tryz.ntmps324
    go_wp2
    go_ret
    exact ⟨rfl, rfl⟩

def partC (p : Part) : Array Value := #[.int .i64 p.ord, .int .i64 p.at_, .int .i64 p.e]
def partZ : Array Value := #[.int .i64 0, .int .i64 0, .int .i64 0]
theorem zvPart (w : World) : (zeroValue 311).run Tryz.prog w = .ok (.agg partZ) w := by kernel_rfl
theorem part_one (p : Part) : (partC p).all (·.oneCell') = true := by simp [partC, Value.oneCell']
theorem infoPart : (Tryz.prog.info? 311).map (·.size) = some 3 := by kernel_rfl
theorem toList_size (s : ByteArray) : s.toList.length = s.size := by rw [ByteArray.toList_eq]; rfl
theorem str_at {s : ByteArray} {i : Nat} {b : UInt8} (h : s.toList[i]? = some b) : ∃ h : i < s.size, s[i] = b := by
  obtain ⟨h1, h2⟩ := List.getElem?_eq_some_iff.1 h
  have hi : i < s.size := by rw [← toList_size]; exact h1
  refine ⟨hi, ?_⟩
  rw [← h2]
  simp only [ByteArray.toList_eq]
  rfl
theorem results_first (tmps : Array Value) (w : World) (g : Nat) (cs : Array Value) (v : Value)
    (h6 : tmps.getD 6 undef = .pointer (some ⟨g, 0, none⟩)) (h7 : tmps.getD 7 undef = v) (hb : Blk w g 311 cs) (hi : cs.size = 3) :
    (results Tryz.f306 tmps).run Tryz.prog w = .ok (.tuple #[.agg cs, v]) w := by
  have h6' : tmps[6]?.getD undef = .pointer (some ⟨g, 0, none⟩) := by simpa using h6
  have h7' : tmps[7]?.getD undef = v := by simpa using h7
  simp [results, Tryz.results306, h6', h7', asAddr, run_loadVar_row w g 311 311 cs (0, 0) _ hb Tryz.underlying311 rfl (by rw [hi]; exact infoPart)]
set_option maxRecDepth 100000 in
set_option maxHeartbeats 4000000 in
theorem first_any (s : ByteArray) (at_ count : Nat) (w : World) (ha : at_ ≤ s.size) (hs : s.size ≤ 1099511627776) (_hc : count ≤ 8) :
    Calls Tryz.prog 306 #[.string s, .int .i64 at_, .int .i64 count] w (Same' w (.tuple #[.agg (partC (firstP count at_ (s.toList.drop at_)).1), .int .i64 ((firstP count at_ (s.toList.drop at_)).2 : Nat)])) := by
  obtain ⟨l, hl⟩ : ∃ l, l = s.toList.drop at_ := ⟨_, rfl⟩
  rw [← hl]
  obtain ⟨ds, hds⟩ : ∃ ds, ds = runD 7 l := ⟨_, rfl⟩
  have HDS := Lib.hid hds
  have HAT : Hid (∀ i b, l[i]? = some b → ∃ h : at_ + i < s.size, s[at_ + i] = b) := fun i b hb => by
    rw [hl, List.getElem?_drop] at hb
    exact str_at hb
  have HAB : Hid (∀ i, at_ + i < s.size → ∃ b, l[i]? = some b) := fun i hi => by
    rw [hl, List.getElem?_drop]
    exact ⟨_, List.getElem?_eq_getElem (by rw [toList_size]; exact hi)⟩
  have HLN : Hid (l.length + at_ = s.size ∧ (l ≠ [] → ∃ z, ∃ h : at_ < s.size, l[0]? = some z ∧ s[at_] = z)) := by
    refine ⟨by rw [hl, List.length_drop, toList_size]; omega, fun hne => ?_⟩
    obtain ⟨z, hz⟩ : ∃ z, l[0]? = some z := by
      cases l with
      | nil => exact absurd rfl hne
      | cons z r => exact ⟨z, rfl⟩
    obtain ⟨h, e⟩ := HAT.out 0 z hz
    exact ⟨z, h, hz, e⟩
  have L1 := Lib.hid (runD_length 7 l)
  have LST := Lib.hid (runD_step 7 l)
  have LTK := Lib.hid (runD_take 7 l)
  have LAL := Lib.hid (runD_all 7 l)
  rw [← hds] at L1 LST LTK LAL
  clear hds hl
  have HA := Lib.hid ha
  have HS := Lib.hid hs
  have CI := Lib.hid (fun b w => isDigit_any b w)
  clear ha hs
  go_enter Tryz.func306, Tryz.ntmps306
  go_wp2_with (refine wpList_allocBlk rfl 311 rfl (.agg partZ) zvPart partZ rfl ?_)
  intro w1 n1
  have F1 := Lib.hid n1.fr
  have B1 := Lib.hid n1.blk
  have Z1 : Sz w w.heap.size := Nat.le_refl _
  clear n1
  generalize w.heap.size = g1 at *
  go_wp2
  go_loopw [8, 9] (fun i n wr => ∃ j : Nat, j ≤ ds.length ∧ i = .int .i64 ((at_ + j : Nat) : Int) ∧ n = .int .i64 ((numD (ds.take j) : Nat) : Int) ∧ w1 = wr) (fun i _ _ => at_ + 8 - (intOf i).toNat)
  case atStart => exact ⟨0, Nat.zero_le _, rfl, rfl, rfl⟩
  case round =>
  obtain ⟨j, hj, rfl, rfl, rfl⟩ := hrel
  have hstep := LST.out j hj
  obtain ⟨q, hq⟩ : ∃ q, q = at_ + j := ⟨_, rfl⟩
  rw [← hq]
  obtain ⟨N, hN⟩ : ∃ N, N = numD (ds.take j) := ⟨_, rfl⟩
  rw [← hN]
  have HN := Lib.hid hN
  clear hN
  by_cases hlt : j < ds.length
  · obtain ⟨h7, b, hb, hbd⟩ := hstep.1 hlt
    obtain ⟨hqs, hqb⟩ := HAT.out j b hb
    have hlt' := Lib.hid hlt
    have HQ : Hid (q = at_ + j) := hq
    have HB := Lib.hid hb
    have t0 : (q : Int) < (s.size : Int) := by omega
    have t0' : q < s.size := by omega
    have t1 : (q : Int) - (at_ : Int) ≤ 6 := by omega
    have t2 : (0 : Int) ≤ (q : Int) := by omega
    have t3 : s[q] = b := by subst hq; exact hqb
    have t4 : isD b = true := hbd
    have bd : 48 ≤ b.toNat ∧ b.toNat ≤ 57 := by simpa [isD] using hbd
    have HNL : Hid (N * 10 + (b.toNat - 48) = numD (ds.take (j + 1)) ∧ N < 10000000) := by
      have hj2 : ds[j]? = some b := by
        rw [LTK.out, List.getElem?_take_of_lt hlt]
        exact hb
      constructor
      · rw [List.take_add_one, hj2, Option.toList_some, numD_snoc, ← HN.out]
      · rw [HN.out]
        refine Nat.lt_of_lt_of_le (numD_lt _ (ds.take j) rfl (fun x hx => LAL.out x (List.mem_of_mem_take hx))) ?_
        refine Nat.le_trans (Nat.pow_le_pow_right (by omega) (show (ds.take j).length ≤ 7 by rw [List.length_take]; omega)) (by decide)
    obtain ⟨d, hd⟩ : ∃ d, d = b.toNat - 48 := ⟨_, rfl⟩
    have t5 : (b.toNat : Int) - 48 = (d : Int) := by omega
    have t6 : d ≤ 9 := by omega
    have HD := Lib.hid hd
    have nb := HNL.out.2
    have nq : q ≤ 1099511627776 := by have := HS.out; omega
    have na : at_ ≤ q := by omega
    clear hq hqb hqs hb hbd bd hstep hlt h7 hd hj
    go_wp2_with fail
    refine (CI.out b _).mono ?_
    rintro e w' ⟨rfl, rfl⟩
    rw [t4]
    go_wp2
    go_roundw
    case rel =>
      have h1 := HQ.out
      have h2 := HNL.out.1
      have h3 := HD.out
      exact ⟨j + 1, hlt'.out, by go_num, by rw [← h2]; go_num, by first | rfl | trivial⟩
    case measure =>
      have h1 := HQ.out
      have h2 := hlt'.out
      have h3 := L1.out.1
      simp [intOf]
      omega
  · obtain rfl : j = ds.length := by omega
    have HQ : Hid (q = at_ + ds.length) := hq
    obtain rfl : N = numD ds := by rw [HN.out, List.take_length]
    have why : s.size ≤ q ∨ (q < s.size ∧ ds.length = 7) ∨ (q < s.size ∧ ds.length ≤ 6 ∧ ∃ b, (∃ h : q < s.size, s[q] = b) ∧ isD b = false) := by
      by_cases h1 : q < s.size
      · right
        by_cases h2 : ds.length = 7
        · exact .inl ⟨h1, h2⟩
        · right
          have h3 := L1.out.1
          refine ⟨h1, by omega, ?_⟩
          obtain ⟨b, hb⟩ := HAB.out ds.length (by omega)
          obtain ⟨h4, h5⟩ := HAT.out _ _ hb
          refine ⟨b, ⟨h1, ?_⟩, ?_⟩
          · subst hq
            exact h5
          · cases h6 : isD b
            · rfl
            · exact absurd (hstep.2 ⟨by omega, b, hb, h6⟩) hlt
      · exact .inl (by omega)
    have HWY := Lib.hid why
    have LL : ds.length ≤ 7 := L1.out.1
    have na : at_ ≤ q := by omega
    have nq : q ≤ 1099511627783 := by have := HS.out; have := HA.out; omega
    clear why hstep hq hlt hj HN LST LTK LAL HAB
    rcases HWY.out with h1 | ⟨h1, h2⟩ | ⟨h1, h2, b, ⟨h1', hb⟩, hbd⟩
    · clear HWY
      have u0 : ¬ (q : Int) < (s.size : Int) := by omega
      have u1 : ¬ q < s.size := by omega
      clear h1
      have HFP : Hid (firstP count at_ l = if count = 8 then (⟨0, at_, 9⟩, at_) else if l = [] then (⟨0, at_, 4⟩, at_) else if ds = [] then (⟨0, at_, 6⟩, at_) else if l[0]? = some 48 then (⟨0, at_, 3⟩, at_) else if 6 < ds.length then (⟨0, at_, 2⟩, at_) else (⟨numD ds, at_, 0⟩, at_ + ds.length)) := by simp only [Hid]; rw [HDS.out]; rfl
      by_cases hc8 : count = 8
      · have HPX : Hid (firstP count at_ l = (⟨0, at_, 9⟩, at_)) := by simp only [Hid]; rw [HFP.out, if_pos hc8]
        have t_c8 : ((count : Int) == 8) = true := by rw [beq_iff_eq]; have := hc8; omega
        clear hc8
        go_wp2_with (refine wpList_storeBlk rfl 311 (.tmp 6) _ rfl g1 (partC ⟨0, at_, 9⟩) rfl rfl _ _ B1.out infoPart rfl (part_one _) ?_)
        intro wa ba fa
        have KB := Lib.hid ba
        have KF : Hid (Fr Nothing w wa) := F1.out.then_ fa (fun i hi e => by have e' : i = g1 := e; have := Z1; unfold Sz at this; omega)
        clear ba fa
        go_wp2
        refine bodyPost_ret (results_first _ _ g1 (partC ⟨0, at_, 9⟩) _ rfl rfl KB.out rfl) rfl ?_
        rw [HPX.out]
        exact ⟨rfl, KF.out⟩
      by_cases hl : l = []
      · have HPX : Hid (firstP count at_ l = (⟨0, at_, 4⟩, at_)) := by simp only [Hid]; rw [HFP.out, if_neg hc8, if_pos hl]
        have t_c8 : ((count : Int) == 8) = false := by rw [beq_eq_false_iff_ne]; have := hc8; omega
        have t_l : ((at_ : Int) == (s.size : Int)) = true := by rw [beq_iff_eq]; have := HLN.out.1; have h0 : l.length = 0 := (by simp [hl]); omega
        clear hc8 hl
        go_wp2_with (refine wpList_storeBlk rfl 311 (.tmp 6) _ rfl g1 (partC ⟨0, at_, 4⟩) rfl rfl _ _ B1.out infoPart rfl (part_one _) ?_)
        intro wa ba fa
        have KB := Lib.hid ba
        have KF : Hid (Fr Nothing w wa) := F1.out.then_ fa (fun i hi e => by have e' : i = g1 := e; have := Z1; unfold Sz at this; omega)
        clear ba fa
        go_wp2
        refine bodyPost_ret (results_first _ _ g1 (partC ⟨0, at_, 4⟩) _ rfl rfl KB.out rfl) rfl ?_
        rw [HPX.out]
        exact ⟨rfl, KF.out⟩
      by_cases hd : ds = []
      · have HPX : Hid (firstP count at_ l = (⟨0, at_, 6⟩, at_)) := by simp only [Hid]; rw [HFP.out, if_neg hc8, if_neg hl, if_pos hd]
        have t_c8 : ((count : Int) == 8) = false := by rw [beq_eq_false_iff_ne]; have := hc8; omega
        have t_l : ((at_ : Int) == (s.size : Int)) = false := by rw [beq_eq_false_iff_ne]; have := HLN.out.1; have h0 : l.length ≠ 0 := fun h => hl (List.length_eq_zero_iff.1 h); omega
        have t_d : ((q : Int) == (at_ : Int)) = true := by rw [beq_iff_eq]; have := HQ.out; have h0 : ds.length = 0 := (by simp [hd]); omega
        clear hc8 hl hd
        go_wp2_with (refine wpList_storeBlk rfl 311 (.tmp 6) _ rfl g1 (partC ⟨0, at_, 6⟩) rfl rfl _ _ B1.out infoPart rfl (part_one _) ?_)
        intro wa ba fa
        have KB := Lib.hid ba
        have KF : Hid (Fr Nothing w wa) := F1.out.then_ fa (fun i hi e => by have e' : i = g1 := e; have := Z1; unfold Sz at this; omega)
        clear ba fa
        go_wp2
        refine bodyPost_ret (results_first _ _ g1 (partC ⟨0, at_, 6⟩) _ rfl rfl KB.out rfl) rfl ?_
        rw [HPX.out]
        exact ⟨rfl, KF.out⟩
      by_cases hz : l[0]? = some 48
      · have HPX : Hid (firstP count at_ l = (⟨0, at_, 3⟩, at_)) := by simp only [Hid]; rw [HFP.out, if_neg hc8, if_neg hl, if_neg hd, if_pos hz]
        have t_c8 : ((count : Int) == 8) = false := by rw [beq_eq_false_iff_ne]; have := hc8; omega
        have t_l : ((at_ : Int) == (s.size : Int)) = false := by rw [beq_eq_false_iff_ne]; have := HLN.out.1; have h0 : l.length ≠ 0 := fun h => hl (List.length_eq_zero_iff.1 h); omega
        have t_d : ((q : Int) == (at_ : Int)) = false := by rw [beq_eq_false_iff_ne]; have := HQ.out; have h0 : ds.length ≠ 0 := fun h => hd (List.length_eq_zero_iff.1 h); omega
        obtain ⟨z, hz1, hz2, hz3⟩ := HLN.out.2 (fun h => hl h)
        have i1 : at_ < s.size := hz1
        have i2 : (at_ : Int) < (s.size : Int) := by omega
        have i3 : (0 : Int) ≤ (at_ : Int) := by omega
        have i4 : s[at_] = z := hz3
        have t_z : ((z.toNat : Int) == 48) = true := by
          rw [hz2] at hz
          have hz' : z = 48 := Option.some.inj hz
          subst hz'
          rfl
        clear hc8 hl hd hz
        go_wp2_with (refine wpList_storeBlk rfl 311 (.tmp 6) _ rfl g1 (partC ⟨0, at_, 3⟩) rfl rfl _ _ B1.out infoPart rfl (part_one _) ?_)
        intro wa ba fa
        have KB := Lib.hid ba
        have KF : Hid (Fr Nothing w wa) := F1.out.then_ fa (fun i hi e => by have e' : i = g1 := e; have := Z1; unfold Sz at this; omega)
        clear ba fa
        go_wp2
        refine bodyPost_ret (results_first _ _ g1 (partC ⟨0, at_, 3⟩) _ rfl rfl KB.out rfl) rfl ?_
        rw [HPX.out]
        exact ⟨rfl, KF.out⟩
      by_cases hm : 6 < ds.length
      · have HPX : Hid (firstP count at_ l = (⟨0, at_, 2⟩, at_)) := by simp only [Hid]; rw [HFP.out, if_neg hc8, if_neg hl, if_neg hd, if_neg hz, if_pos hm]
        have t_c8 : ((count : Int) == 8) = false := by rw [beq_eq_false_iff_ne]; have := hc8; omega
        have t_l : ((at_ : Int) == (s.size : Int)) = false := by rw [beq_eq_false_iff_ne]; have := HLN.out.1; have h0 : l.length ≠ 0 := fun h => hl (List.length_eq_zero_iff.1 h); omega
        have t_d : ((q : Int) == (at_ : Int)) = false := by rw [beq_eq_false_iff_ne]; have := HQ.out; have h0 : ds.length ≠ 0 := fun h => hd (List.length_eq_zero_iff.1 h); omega
        obtain ⟨z, hz1, hz2, hz3⟩ := HLN.out.2 (fun h => hl h)
        have i1 : at_ < s.size := hz1
        have i2 : (at_ : Int) < (s.size : Int) := by omega
        have i3 : (0 : Int) ≤ (at_ : Int) := by omega
        have i4 : s[at_] = z := hz3
        have t_z : ((z.toNat : Int) == 48) = false := by
          rw [hz2] at hz
          rw [beq_eq_false_iff_ne]
          intro h
          apply hz
          have : z = 48 := by
            apply UInt8.toNat_inj.1
            have h2 : (48 : UInt8).toNat = 48 := rfl
            omega
          rw [this]
        have t_m : decide (6 < (q : Int) - (at_ : Int)) = true := decide_eq_true (by have := HQ.out; omega)
        clear hc8 hl hd hz hm
        go_wp2_with (refine wpList_storeBlk rfl 311 (.tmp 6) _ rfl g1 (partC ⟨0, at_, 2⟩) rfl rfl _ _ B1.out infoPart rfl (part_one _) ?_)
        intro wa ba fa
        have KB := Lib.hid ba
        have KF : Hid (Fr Nothing w wa) := F1.out.then_ fa (fun i hi e => by have e' : i = g1 := e; have := Z1; unfold Sz at this; omega)
        clear ba fa
        go_wp2
        refine bodyPost_ret (results_first _ _ g1 (partC ⟨0, at_, 2⟩) _ rfl rfl KB.out rfl) rfl ?_
        rw [HPX.out]
        exact ⟨rfl, KF.out⟩
      have HPX : Hid (firstP count at_ l = (⟨numD ds, at_, 0⟩, at_ + ds.length)) := by simp only [Hid]; rw [HFP.out, if_neg hc8, if_neg hl, if_neg hd, if_neg hz, if_neg hm]
      have t_c8 : ((count : Int) == 8) = false := by rw [beq_eq_false_iff_ne]; have := hc8; omega
      have t_l : ((at_ : Int) == (s.size : Int)) = false := by rw [beq_eq_false_iff_ne]; have := HLN.out.1; have h0 : l.length ≠ 0 := fun h => hl (List.length_eq_zero_iff.1 h); omega
      have t_d : ((q : Int) == (at_ : Int)) = false := by rw [beq_eq_false_iff_ne]; have := HQ.out; have h0 : ds.length ≠ 0 := fun h => hd (List.length_eq_zero_iff.1 h); omega
      obtain ⟨z, hz1, hz2, hz3⟩ := HLN.out.2 (fun h => hl h)
      have i1 : at_ < s.size := hz1
      have i2 : (at_ : Int) < (s.size : Int) := by omega
      have i3 : (0 : Int) ≤ (at_ : Int) := by omega
      have i4 : s[at_] = z := hz3
      have t_z : ((z.toNat : Int) == 48) = false := by
        rw [hz2] at hz
        rw [beq_eq_false_iff_ne]
        intro h
        apply hz
        have : z = 48 := by
          apply UInt8.toNat_inj.1
          have h2 : (48 : UInt8).toNat = 48 := rfl
          omega
        rw [this]
      have t_m : decide (6 < (q : Int) - (at_ : Int)) = false := decide_eq_false (by have := HQ.out; omega)
      clear hc8 hl hd hz hm
      go_wp2_with (refine wpList_storeBlk rfl 311 (.tmp 6) _ rfl g1 (partC ⟨numD ds, at_, 0⟩) rfl rfl _ _ B1.out infoPart rfl (part_one _) ?_)
      intro wa ba fa
      have KB := Lib.hid ba
      have KF : Hid (Fr Nothing w wa) := F1.out.then_ fa (fun i hi e => by have e' : i = g1 := e; have := Z1; unfold Sz at this; omega)
      clear ba fa
      go_wp2
      refine bodyPost_ret (results_first _ _ g1 (partC ⟨numD ds, at_, 0⟩) _ rfl rfl KB.out rfl) rfl ?_
      rw [HPX.out]
      refine ⟨?_, KF.out⟩
      rw [← HQ.out]
      rfl
    · clear HWY
      have u0 : (q : Int) < (s.size : Int) := by omega
      have u1 : ¬ (q : Int) - (at_ : Int) ≤ 6 := by have := HQ.out; omega
      clear h2
      have HFP : Hid (firstP count at_ l = if count = 8 then (⟨0, at_, 9⟩, at_) else if l = [] then (⟨0, at_, 4⟩, at_) else if ds = [] then (⟨0, at_, 6⟩, at_) else if l[0]? = some 48 then (⟨0, at_, 3⟩, at_) else if 6 < ds.length then (⟨0, at_, 2⟩, at_) else (⟨numD ds, at_, 0⟩, at_ + ds.length)) := by simp only [Hid]; rw [HDS.out]; rfl
      by_cases hc8 : count = 8
      · have HPX : Hid (firstP count at_ l = (⟨0, at_, 9⟩, at_)) := by simp only [Hid]; rw [HFP.out, if_pos hc8]
        have t_c8 : ((count : Int) == 8) = true := by rw [beq_iff_eq]; have := hc8; omega
        clear hc8
        go_wp2_with (refine wpList_storeBlk rfl 311 (.tmp 6) _ rfl g1 (partC ⟨0, at_, 9⟩) rfl rfl _ _ B1.out infoPart rfl (part_one _) ?_)
        intro wa ba fa
        have KB := Lib.hid ba
        have KF : Hid (Fr Nothing w wa) := F1.out.then_ fa (fun i hi e => by have e' : i = g1 := e; have := Z1; unfold Sz at this; omega)
        clear ba fa
        go_wp2
        refine bodyPost_ret (results_first _ _ g1 (partC ⟨0, at_, 9⟩) _ rfl rfl KB.out rfl) rfl ?_
        rw [HPX.out]
        exact ⟨rfl, KF.out⟩
      by_cases hl : l = []
      · have HPX : Hid (firstP count at_ l = (⟨0, at_, 4⟩, at_)) := by simp only [Hid]; rw [HFP.out, if_neg hc8, if_pos hl]
        have t_c8 : ((count : Int) == 8) = false := by rw [beq_eq_false_iff_ne]; have := hc8; omega
        have t_l : ((at_ : Int) == (s.size : Int)) = true := by rw [beq_iff_eq]; have := HLN.out.1; have h0 : l.length = 0 := (by simp [hl]); omega
        clear hc8 hl
        go_wp2_with (refine wpList_storeBlk rfl 311 (.tmp 6) _ rfl g1 (partC ⟨0, at_, 4⟩) rfl rfl _ _ B1.out infoPart rfl (part_one _) ?_)
        intro wa ba fa
        have KB := Lib.hid ba
        have KF : Hid (Fr Nothing w wa) := F1.out.then_ fa (fun i hi e => by have e' : i = g1 := e; have := Z1; unfold Sz at this; omega)
        clear ba fa
        go_wp2
        refine bodyPost_ret (results_first _ _ g1 (partC ⟨0, at_, 4⟩) _ rfl rfl KB.out rfl) rfl ?_
        rw [HPX.out]
        exact ⟨rfl, KF.out⟩
      by_cases hd : ds = []
      · have HPX : Hid (firstP count at_ l = (⟨0, at_, 6⟩, at_)) := by simp only [Hid]; rw [HFP.out, if_neg hc8, if_neg hl, if_pos hd]
        have t_c8 : ((count : Int) == 8) = false := by rw [beq_eq_false_iff_ne]; have := hc8; omega
        have t_l : ((at_ : Int) == (s.size : Int)) = false := by rw [beq_eq_false_iff_ne]; have := HLN.out.1; have h0 : l.length ≠ 0 := fun h => hl (List.length_eq_zero_iff.1 h); omega
        have t_d : ((q : Int) == (at_ : Int)) = true := by rw [beq_iff_eq]; have := HQ.out; have h0 : ds.length = 0 := (by simp [hd]); omega
        clear hc8 hl hd
        go_wp2_with (refine wpList_storeBlk rfl 311 (.tmp 6) _ rfl g1 (partC ⟨0, at_, 6⟩) rfl rfl _ _ B1.out infoPart rfl (part_one _) ?_)
        intro wa ba fa
        have KB := Lib.hid ba
        have KF : Hid (Fr Nothing w wa) := F1.out.then_ fa (fun i hi e => by have e' : i = g1 := e; have := Z1; unfold Sz at this; omega)
        clear ba fa
        go_wp2
        refine bodyPost_ret (results_first _ _ g1 (partC ⟨0, at_, 6⟩) _ rfl rfl KB.out rfl) rfl ?_
        rw [HPX.out]
        exact ⟨rfl, KF.out⟩
      by_cases hz : l[0]? = some 48
      · have HPX : Hid (firstP count at_ l = (⟨0, at_, 3⟩, at_)) := by simp only [Hid]; rw [HFP.out, if_neg hc8, if_neg hl, if_neg hd, if_pos hz]
        have t_c8 : ((count : Int) == 8) = false := by rw [beq_eq_false_iff_ne]; have := hc8; omega
        have t_l : ((at_ : Int) == (s.size : Int)) = false := by rw [beq_eq_false_iff_ne]; have := HLN.out.1; have h0 : l.length ≠ 0 := fun h => hl (List.length_eq_zero_iff.1 h); omega
        have t_d : ((q : Int) == (at_ : Int)) = false := by rw [beq_eq_false_iff_ne]; have := HQ.out; have h0 : ds.length ≠ 0 := fun h => hd (List.length_eq_zero_iff.1 h); omega
        obtain ⟨z, hz1, hz2, hz3⟩ := HLN.out.2 (fun h => hl h)
        have i1 : at_ < s.size := hz1
        have i2 : (at_ : Int) < (s.size : Int) := by omega
        have i3 : (0 : Int) ≤ (at_ : Int) := by omega
        have i4 : s[at_] = z := hz3
        have t_z : ((z.toNat : Int) == 48) = true := by
          rw [hz2] at hz
          have hz' : z = 48 := Option.some.inj hz
          subst hz'
          rfl
        clear hc8 hl hd hz
        go_wp2_with (refine wpList_storeBlk rfl 311 (.tmp 6) _ rfl g1 (partC ⟨0, at_, 3⟩) rfl rfl _ _ B1.out infoPart rfl (part_one _) ?_)
        intro wa ba fa
        have KB := Lib.hid ba
        have KF : Hid (Fr Nothing w wa) := F1.out.then_ fa (fun i hi e => by have e' : i = g1 := e; have := Z1; unfold Sz at this; omega)
        clear ba fa
        go_wp2
        refine bodyPost_ret (results_first _ _ g1 (partC ⟨0, at_, 3⟩) _ rfl rfl KB.out rfl) rfl ?_
        rw [HPX.out]
        exact ⟨rfl, KF.out⟩
      by_cases hm : 6 < ds.length
      · have HPX : Hid (firstP count at_ l = (⟨0, at_, 2⟩, at_)) := by simp only [Hid]; rw [HFP.out, if_neg hc8, if_neg hl, if_neg hd, if_neg hz, if_pos hm]
        have t_c8 : ((count : Int) == 8) = false := by rw [beq_eq_false_iff_ne]; have := hc8; omega
        have t_l : ((at_ : Int) == (s.size : Int)) = false := by rw [beq_eq_false_iff_ne]; have := HLN.out.1; have h0 : l.length ≠ 0 := fun h => hl (List.length_eq_zero_iff.1 h); omega
        have t_d : ((q : Int) == (at_ : Int)) = false := by rw [beq_eq_false_iff_ne]; have := HQ.out; have h0 : ds.length ≠ 0 := fun h => hd (List.length_eq_zero_iff.1 h); omega
        obtain ⟨z, hz1, hz2, hz3⟩ := HLN.out.2 (fun h => hl h)
        have i1 : at_ < s.size := hz1
        have i2 : (at_ : Int) < (s.size : Int) := by omega
        have i3 : (0 : Int) ≤ (at_ : Int) := by omega
        have i4 : s[at_] = z := hz3
        have t_z : ((z.toNat : Int) == 48) = false := by
          rw [hz2] at hz
          rw [beq_eq_false_iff_ne]
          intro h
          apply hz
          have : z = 48 := by
            apply UInt8.toNat_inj.1
            have h2 : (48 : UInt8).toNat = 48 := rfl
            omega
          rw [this]
        have t_m : decide (6 < (q : Int) - (at_ : Int)) = true := decide_eq_true (by have := HQ.out; omega)
        clear hc8 hl hd hz hm
        go_wp2_with (refine wpList_storeBlk rfl 311 (.tmp 6) _ rfl g1 (partC ⟨0, at_, 2⟩) rfl rfl _ _ B1.out infoPart rfl (part_one _) ?_)
        intro wa ba fa
        have KB := Lib.hid ba
        have KF : Hid (Fr Nothing w wa) := F1.out.then_ fa (fun i hi e => by have e' : i = g1 := e; have := Z1; unfold Sz at this; omega)
        clear ba fa
        go_wp2
        refine bodyPost_ret (results_first _ _ g1 (partC ⟨0, at_, 2⟩) _ rfl rfl KB.out rfl) rfl ?_
        rw [HPX.out]
        exact ⟨rfl, KF.out⟩
      have HPX : Hid (firstP count at_ l = (⟨numD ds, at_, 0⟩, at_ + ds.length)) := by simp only [Hid]; rw [HFP.out, if_neg hc8, if_neg hl, if_neg hd, if_neg hz, if_neg hm]
      have t_c8 : ((count : Int) == 8) = false := by rw [beq_eq_false_iff_ne]; have := hc8; omega
      have t_l : ((at_ : Int) == (s.size : Int)) = false := by rw [beq_eq_false_iff_ne]; have := HLN.out.1; have h0 : l.length ≠ 0 := fun h => hl (List.length_eq_zero_iff.1 h); omega
      have t_d : ((q : Int) == (at_ : Int)) = false := by rw [beq_eq_false_iff_ne]; have := HQ.out; have h0 : ds.length ≠ 0 := fun h => hd (List.length_eq_zero_iff.1 h); omega
      obtain ⟨z, hz1, hz2, hz3⟩ := HLN.out.2 (fun h => hl h)
      have i1 : at_ < s.size := hz1
      have i2 : (at_ : Int) < (s.size : Int) := by omega
      have i3 : (0 : Int) ≤ (at_ : Int) := by omega
      have i4 : s[at_] = z := hz3
      have t_z : ((z.toNat : Int) == 48) = false := by
        rw [hz2] at hz
        rw [beq_eq_false_iff_ne]
        intro h
        apply hz
        have : z = 48 := by
          apply UInt8.toNat_inj.1
          have h2 : (48 : UInt8).toNat = 48 := rfl
          omega
        rw [this]
      have t_m : decide (6 < (q : Int) - (at_ : Int)) = false := decide_eq_false (by have := HQ.out; omega)
      clear hc8 hl hd hz hm
      go_wp2_with (refine wpList_storeBlk rfl 311 (.tmp 6) _ rfl g1 (partC ⟨numD ds, at_, 0⟩) rfl rfl _ _ B1.out infoPart rfl (part_one _) ?_)
      intro wa ba fa
      have KB := Lib.hid ba
      have KF : Hid (Fr Nothing w wa) := F1.out.then_ fa (fun i hi e => by have e' : i = g1 := e; have := Z1; unfold Sz at this; omega)
      clear ba fa
      go_wp2
      refine bodyPost_ret (results_first _ _ g1 (partC ⟨numD ds, at_, 0⟩) _ rfl rfl KB.out rfl) rfl ?_
      rw [HPX.out]
      refine ⟨?_, KF.out⟩
      rw [← HQ.out]
      rfl
    · clear HWY
      have u0 : (q : Int) < (s.size : Int) := by omega
      have u1 : (q : Int) - (at_ : Int) ≤ 6 := by have := HQ.out; omega
      have u2 : (0 : Int) ≤ (q : Int) := by omega
      have u3 : s[q] = b := hb
      have t4 : isD b = false := hbd
      clear hb hbd h2
      have HFP : Hid (firstP count at_ l = if count = 8 then (⟨0, at_, 9⟩, at_) else if l = [] then (⟨0, at_, 4⟩, at_) else if ds = [] then (⟨0, at_, 6⟩, at_) else if l[0]? = some 48 then (⟨0, at_, 3⟩, at_) else if 6 < ds.length then (⟨0, at_, 2⟩, at_) else (⟨numD ds, at_, 0⟩, at_ + ds.length)) := by simp only [Hid]; rw [HDS.out]; rfl
      by_cases hc8 : count = 8
      · have HPX : Hid (firstP count at_ l = (⟨0, at_, 9⟩, at_)) := by simp only [Hid]; rw [HFP.out, if_pos hc8]
        have t_c8 : ((count : Int) == 8) = true := by rw [beq_iff_eq]; have := hc8; omega
        clear hc8
        go_wp2_with fail
        refine (CI.out b _).mono ?_
        rintro e w' ⟨rfl, rfl⟩
        rw [t4]
        go_wp2_with (refine wpList_storeBlk rfl 311 (.tmp 6) _ rfl g1 (partC ⟨0, at_, 9⟩) rfl rfl _ _ B1.out infoPart rfl (part_one _) ?_)
        intro wa ba fa
        have KB := Lib.hid ba
        have KF : Hid (Fr Nothing w wa) := F1.out.then_ fa (fun i hi e => by have e' : i = g1 := e; have := Z1; unfold Sz at this; omega)
        clear ba fa
        go_wp2
        refine bodyPost_ret (results_first _ _ g1 (partC ⟨0, at_, 9⟩) _ rfl rfl KB.out rfl) rfl ?_
        rw [HPX.out]
        exact ⟨rfl, KF.out⟩
      by_cases hl : l = []
      · have HPX : Hid (firstP count at_ l = (⟨0, at_, 4⟩, at_)) := by simp only [Hid]; rw [HFP.out, if_neg hc8, if_pos hl]
        have t_c8 : ((count : Int) == 8) = false := by rw [beq_eq_false_iff_ne]; have := hc8; omega
        have t_l : ((at_ : Int) == (s.size : Int)) = true := by rw [beq_iff_eq]; have := HLN.out.1; have h0 : l.length = 0 := (by simp [hl]); omega
        clear hc8 hl
        go_wp2_with fail
        refine (CI.out b _).mono ?_
        rintro e w' ⟨rfl, rfl⟩
        rw [t4]
        go_wp2_with (refine wpList_storeBlk rfl 311 (.tmp 6) _ rfl g1 (partC ⟨0, at_, 4⟩) rfl rfl _ _ B1.out infoPart rfl (part_one _) ?_)
        intro wa ba fa
        have KB := Lib.hid ba
        have KF : Hid (Fr Nothing w wa) := F1.out.then_ fa (fun i hi e => by have e' : i = g1 := e; have := Z1; unfold Sz at this; omega)
        clear ba fa
        go_wp2
        refine bodyPost_ret (results_first _ _ g1 (partC ⟨0, at_, 4⟩) _ rfl rfl KB.out rfl) rfl ?_
        rw [HPX.out]
        exact ⟨rfl, KF.out⟩
      by_cases hd : ds = []
      · have HPX : Hid (firstP count at_ l = (⟨0, at_, 6⟩, at_)) := by simp only [Hid]; rw [HFP.out, if_neg hc8, if_neg hl, if_pos hd]
        have t_c8 : ((count : Int) == 8) = false := by rw [beq_eq_false_iff_ne]; have := hc8; omega
        have t_l : ((at_ : Int) == (s.size : Int)) = false := by rw [beq_eq_false_iff_ne]; have := HLN.out.1; have h0 : l.length ≠ 0 := fun h => hl (List.length_eq_zero_iff.1 h); omega
        have t_d : ((q : Int) == (at_ : Int)) = true := by rw [beq_iff_eq]; have := HQ.out; have h0 : ds.length = 0 := (by simp [hd]); omega
        clear hc8 hl hd
        go_wp2_with fail
        refine (CI.out b _).mono ?_
        rintro e w' ⟨rfl, rfl⟩
        rw [t4]
        go_wp2_with (refine wpList_storeBlk rfl 311 (.tmp 6) _ rfl g1 (partC ⟨0, at_, 6⟩) rfl rfl _ _ B1.out infoPart rfl (part_one _) ?_)
        intro wa ba fa
        have KB := Lib.hid ba
        have KF : Hid (Fr Nothing w wa) := F1.out.then_ fa (fun i hi e => by have e' : i = g1 := e; have := Z1; unfold Sz at this; omega)
        clear ba fa
        go_wp2
        refine bodyPost_ret (results_first _ _ g1 (partC ⟨0, at_, 6⟩) _ rfl rfl KB.out rfl) rfl ?_
        rw [HPX.out]
        exact ⟨rfl, KF.out⟩
      by_cases hz : l[0]? = some 48
      · have HPX : Hid (firstP count at_ l = (⟨0, at_, 3⟩, at_)) := by simp only [Hid]; rw [HFP.out, if_neg hc8, if_neg hl, if_neg hd, if_pos hz]
        have t_c8 : ((count : Int) == 8) = false := by rw [beq_eq_false_iff_ne]; have := hc8; omega
        have t_l : ((at_ : Int) == (s.size : Int)) = false := by rw [beq_eq_false_iff_ne]; have := HLN.out.1; have h0 : l.length ≠ 0 := fun h => hl (List.length_eq_zero_iff.1 h); omega
        have t_d : ((q : Int) == (at_ : Int)) = false := by rw [beq_eq_false_iff_ne]; have := HQ.out; have h0 : ds.length ≠ 0 := fun h => hd (List.length_eq_zero_iff.1 h); omega
        obtain ⟨z, hz1, hz2, hz3⟩ := HLN.out.2 (fun h => hl h)
        have i1 : at_ < s.size := hz1
        have i2 : (at_ : Int) < (s.size : Int) := by omega
        have i3 : (0 : Int) ≤ (at_ : Int) := by omega
        have i4 : s[at_] = z := hz3
        have t_z : ((z.toNat : Int) == 48) = true := by
          rw [hz2] at hz
          have hz' : z = 48 := Option.some.inj hz
          subst hz'
          rfl
        clear hc8 hl hd hz
        go_wp2_with fail
        refine (CI.out b _).mono ?_
        rintro e w' ⟨rfl, rfl⟩
        rw [t4]
        go_wp2_with (refine wpList_storeBlk rfl 311 (.tmp 6) _ rfl g1 (partC ⟨0, at_, 3⟩) rfl rfl _ _ B1.out infoPart rfl (part_one _) ?_)
        intro wa ba fa
        have KB := Lib.hid ba
        have KF : Hid (Fr Nothing w wa) := F1.out.then_ fa (fun i hi e => by have e' : i = g1 := e; have := Z1; unfold Sz at this; omega)
        clear ba fa
        go_wp2
        refine bodyPost_ret (results_first _ _ g1 (partC ⟨0, at_, 3⟩) _ rfl rfl KB.out rfl) rfl ?_
        rw [HPX.out]
        exact ⟨rfl, KF.out⟩
      by_cases hm : 6 < ds.length
      · have HPX : Hid (firstP count at_ l = (⟨0, at_, 2⟩, at_)) := by simp only [Hid]; rw [HFP.out, if_neg hc8, if_neg hl, if_neg hd, if_neg hz, if_pos hm]
        have t_c8 : ((count : Int) == 8) = false := by rw [beq_eq_false_iff_ne]; have := hc8; omega
        have t_l : ((at_ : Int) == (s.size : Int)) = false := by rw [beq_eq_false_iff_ne]; have := HLN.out.1; have h0 : l.length ≠ 0 := fun h => hl (List.length_eq_zero_iff.1 h); omega
        have t_d : ((q : Int) == (at_ : Int)) = false := by rw [beq_eq_false_iff_ne]; have := HQ.out; have h0 : ds.length ≠ 0 := fun h => hd (List.length_eq_zero_iff.1 h); omega
        obtain ⟨z, hz1, hz2, hz3⟩ := HLN.out.2 (fun h => hl h)
        have i1 : at_ < s.size := hz1
        have i2 : (at_ : Int) < (s.size : Int) := by omega
        have i3 : (0 : Int) ≤ (at_ : Int) := by omega
        have i4 : s[at_] = z := hz3
        have t_z : ((z.toNat : Int) == 48) = false := by
          rw [hz2] at hz
          rw [beq_eq_false_iff_ne]
          intro h
          apply hz
          have : z = 48 := by
            apply UInt8.toNat_inj.1
            have h2 : (48 : UInt8).toNat = 48 := rfl
            omega
          rw [this]
        have t_m : decide (6 < (q : Int) - (at_ : Int)) = true := decide_eq_true (by have := HQ.out; omega)
        clear hc8 hl hd hz hm
        go_wp2_with fail
        refine (CI.out b _).mono ?_
        rintro e w' ⟨rfl, rfl⟩
        rw [t4]
        go_wp2_with (refine wpList_storeBlk rfl 311 (.tmp 6) _ rfl g1 (partC ⟨0, at_, 2⟩) rfl rfl _ _ B1.out infoPart rfl (part_one _) ?_)
        intro wa ba fa
        have KB := Lib.hid ba
        have KF : Hid (Fr Nothing w wa) := F1.out.then_ fa (fun i hi e => by have e' : i = g1 := e; have := Z1; unfold Sz at this; omega)
        clear ba fa
        go_wp2
        refine bodyPost_ret (results_first _ _ g1 (partC ⟨0, at_, 2⟩) _ rfl rfl KB.out rfl) rfl ?_
        rw [HPX.out]
        exact ⟨rfl, KF.out⟩
      have HPX : Hid (firstP count at_ l = (⟨numD ds, at_, 0⟩, at_ + ds.length)) := by simp only [Hid]; rw [HFP.out, if_neg hc8, if_neg hl, if_neg hd, if_neg hz, if_neg hm]
      have t_c8 : ((count : Int) == 8) = false := by rw [beq_eq_false_iff_ne]; have := hc8; omega
      have t_l : ((at_ : Int) == (s.size : Int)) = false := by rw [beq_eq_false_iff_ne]; have := HLN.out.1; have h0 : l.length ≠ 0 := fun h => hl (List.length_eq_zero_iff.1 h); omega
      have t_d : ((q : Int) == (at_ : Int)) = false := by rw [beq_eq_false_iff_ne]; have := HQ.out; have h0 : ds.length ≠ 0 := fun h => hd (List.length_eq_zero_iff.1 h); omega
      obtain ⟨z, hz1, hz2, hz3⟩ := HLN.out.2 (fun h => hl h)
      have i1 : at_ < s.size := hz1
      have i2 : (at_ : Int) < (s.size : Int) := by omega
      have i3 : (0 : Int) ≤ (at_ : Int) := by omega
      have i4 : s[at_] = z := hz3
      have t_z : ((z.toNat : Int) == 48) = false := by
        rw [hz2] at hz
        rw [beq_eq_false_iff_ne]
        intro h
        apply hz
        have : z = 48 := by
          apply UInt8.toNat_inj.1
          have h2 : (48 : UInt8).toNat = 48 := rfl
          omega
        rw [this]
      have t_m : decide (6 < (q : Int) - (at_ : Int)) = false := decide_eq_false (by have := HQ.out; omega)
      clear hc8 hl hd hz hm
      go_wp2_with fail
      refine (CI.out b _).mono ?_
      rintro e w' ⟨rfl, rfl⟩
      rw [t4]
      go_wp2_with (refine wpList_storeBlk rfl 311 (.tmp 6) _ rfl g1 (partC ⟨numD ds, at_, 0⟩) rfl rfl _ _ B1.out infoPart rfl (part_one _) ?_)
      intro wa ba fa
      have KB := Lib.hid ba
      have KF : Hid (Fr Nothing w wa) := F1.out.then_ fa (fun i hi e => by have e' : i = g1 := e; have := Z1; unfold Sz at this; omega)
      clear ba fa
      go_wp2
      refine bodyPost_ret (results_first _ _ g1 (partC ⟨numD ds, at_, 0⟩) _ rfl rfl KB.out rfl) rfl ?_
      rw [HPX.out]
      refine ⟨?_, KF.out⟩
      rw [← HQ.out]
      rfl
end Go.Proofs.YtmpokappjogehaaGreatDoor
