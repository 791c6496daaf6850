/- LogtreeTruncates: the walk (written by genTrX.py). -/
import Derived.Test.YtkaghbpdnmigmaaDoorTrW
import Derived.Test.YtkaghbpdnmigmaaDoorGwV
namespace Go.Proofs.YtkaghbpdnmigmaaDoor
open Go.RowKit

theorem TreeC.ltAll {w : World} {p : Nat} {A : Option Addr} {n c : Nat} {mb : Option Nat} {ds : List (List UInt8)} {C : Nat → Nat → Prop} (h : TreeC w p A n c mb ds C) : ∀ k, TB p A n c mb k → k < w.heap.size := by
  intro k hk
  rcases hk with rfl | hk | hk
  · exact h.blk.lt
  · rcases h.parts with ⟨b, h1, h2⟩ | ⟨h1, _⟩
    · rw [h1] at hk
      cases hk
      exact h2.lt
    · rw [h1] at hk
      cases hk
  · obtain ⟨o, ho, _⟩ := own_block h.row hk
    exact (Array.getElem?_eq_some_iff.1 ho).1
theorem TreeC.frT {w w' : World} {T : Nat → Prop} {p : Nat} {A : Option Addr} {n c : Nat} {mb : Option Nat} {ds : List (List UInt8)} {C : Nat → Nat → Prop} (h : TreeC w p A n c mb ds C) (hf : Fr T w w') (hd : ∀ k, TB p A n c mb k → ¬ T k) : TreeC w' p A n c mb ds C :=
  ⟨h.blk.fr hf (hd p (.inl rfl)), own_fr h.row hf (fun k hk => hd k (.inr (.inr hk))), h.len, h.each, by
    rcases h.parts with ⟨b, hb, hp⟩ | h0
    · exact .inl ⟨b, hb, hp.fr hf (hd b (.inr (.inl hb)))⟩
    · exact .inr h0⟩
def CloneF (n : Nat) (ds : List (List UInt8)) (v : Value) (W : World) : Prop := ∃ g A c mb, v = .pointer (some ⟨g, 0, none⟩) ∧ TreeC W g A n c mb ds (partC n)
theorem CloneF.stable {w : World} {n : Nat} {ds : List (List UInt8)} : ∀ v w' w'', Fr Nothing w w' → Fr Nothing w' w'' → CloneF n ds v w' → CloneF n ds v w'' := fun _ _ _ _ hf ⟨g, A, c, mb, h, hT⟩ => ⟨g, A, c, mb, h, hT.fr0 hf⟩
theorem CloneF.of {w w' : World} {g n : Nat} {ds : List (List UInt8)} (h : TreeN w w' g ds) (hl : ds.length = n) : CloneF n ds (.pointer (some ⟨g, 0, none⟩)) w' := by
  obtain ⟨A, c, mb, h1, _⟩ := h
  subst hl
  exact ⟨g, A, c, mb, rfl, h1⟩
theorem TreeC.back {w0 w : World} {p : Nat} {A : Option Addr} {n c : Nat} {mb : Option Nat} {ds : List (List UInt8)} (h : TreeC w p A n c mb ds (partC n)) (hf : Fr Nothing w0 w) (hb : ∀ k, TB p A n c mb k → w0.heap.size ≤ k) : TreeN w0 w p ds := by
  have hl := h.len
  subst hl
  exact ⟨A, c, mb, h, hf, hb⟩
theorem TreeC.cap {w : World} {p : Nat} {A : Option Addr} {n c : Nat} {mb : Option Nat} {ds : List (List UInt8)} {C : Nat → Nat → Prop} (h : TreeC w p A n c mb ds C) : n ≤ c := by
  obtain ⟨_, _, h1, h2⟩ := own_shape h.row
  cases h1
  exact h2
/-- What Truncate leaves. -/
def CutM (b q k : Nat) (mb : Option Nat) (ds : List (List UInt8)) (W : World) : Prop := ∃ A1 c1, TreeC W q A1 k c1 mb (ds.take k) (partC k) ∧ ∀ i, (Value.slice A1 k c1).ownBlock = some i → b ≤ i

theorem CutM.fr0 {b q k : Nat} {mb : Option Nat} {ds : List (List UInt8)} {W W' : World} (h : CutM b q k mb ds W) (hf : Fr Nothing W W') : CutM b q k mb ds W' := by
  obtain ⟨A1, c1, h1, h2⟩ := h
  exact ⟨A1, c1, h1.fr0 hf, h2⟩

set_option maxRecDepth 100000 in
set_option maxHeartbeats 16000000 in
theorem LogtreeTruncates_any (n0 s0 : Int) (A0 : Option Addr) (m0 c0 : Nat) (es : List (List UInt8)) (S0 : Nat → Prop) (w : World) (hn0 : 0 ≤ n0 ∧ n0 ≤ 255) (hs0 : 0 ≤ s0 ∧ s0 ≤ 255) (hT : ShaTab w) (hE : DigL w S0 A0 m0 es) (hm0 : m0 ≤ c0) (hc0 : c0 ≤ 9223372036854775807) :
    Calls Tryd.prog 10 #[.int .u8 n0, .int .u8 s0, .slice A0 m0 c0] w (Same' w (.bool true)) := by
  obtain ⟨n, rfl⟩ : ∃ n : Nat, n0 = n := ⟨n0.toNat, by omega⟩
  obtain ⟨s, rfl⟩ : ∃ s : UInt8, s0 = ((s.toNat : Nat) : Int) := ⟨UInt8.ofNat s0.toNat, by rw [UInt8.toNat_ofNat']; omega⟩
  have CK : Hid (∀ w', Fr Nothing w w' → Calls Tryd.prog 15 #[] w' (Same' w' (.bool true))) := fun w' hf => known_any w' (hT.fr0 hf)
  have CL := Lib.hid (fun w' => Leaves_any n s w' (by omega))
  obtain ⟨m, hm⟩ : ∃ m, m = n % 41 := ⟨_, rfl⟩
  have hm41 : m < 41 := by omega
  rw [← hm] at CL
  have hl := leavesL_length m s
  have he := leavesL_each m s
  generalize leavesL m s = ds at *
  obtain ⟨mm, hmm⟩ : ∃ mm : Nat, min (m0 : Int) 20 = (mm : Int) := ⟨min m0 20, by omega⟩
  have hmm20 : mm ≤ 20 := by omega
  have hmmm : mm ≤ m0 := by omega
  have r1 : (mm : Int) ≤ (m0 : Int) := by omega
  have r2 : (mm : Int) ≤ (c0 : Int) := by omega
  have r3 : (m0 : Int) ≤ (c0 : Int) := by omega
  have HEE : Hid (DigL w S0 A0 mm (es.take mm)) := hE.take hmmm
  generalize es.take mm = et at *
  have etl : et.length = mm := HEE.out.len
  have hLO := hT.low
  have HT := Lib.hid hT
  have HE := Lib.hid he
  have HL := Lib.hid hl
  have HLO := Lib.hid hLO
  have HETL := Lib.hid etl
  obtain ⟨N, hN⟩ : ∃ N : Nat, (m : Int) + (mm : Int) = (N : Int) := ⟨m + mm, by omega⟩
  have N4 : N ≤ 60 := by omega
  obtain ⟨N1, hN1⟩ : ∃ N1 : Nat, (N : Int) + 1 = (N1 : Int) := ⟨N + 1, by omega⟩
  obtain ⟨kk, hkk⟩ : ∃ kk : Nat, kk = s.toNat % N1 := ⟨_, rfl⟩
  have hkN : kk ≤ N := by
    have := Nat.mod_lt s.toNat (show 0 < N1 by omega)
    omega
  have hmod : ((s.toNat : Nat) : Int).tmod (N1 : Int) = (kk : Int) := by
    rw [Int.tmod_eq_emod_of_nonneg (by omega), hkk]
    exact (Int.natCast_emod _ _).symm
  have hn0' : (N1 = 0) = False := eq_false (by omega)
  have hn1' : ((N1 : Int) = 0) = False := eq_false (by omega)
  have N14 : N1 ≤ 61 := by omega
  have wN1 : IntKind.i64.wrap (N1 : Int) = (N1 : Int) := IntWalk.i64_in _ (by omega)
  have k4 : kk ≤ 60 := by omega
  have s4 : s.toNat ≤ 255 := by have := s.toNat_lt; omega
  have hall : (ds ++ et).length = N := by rw [List.length_append, hl, etl]; omega
  have heach : ∀ d ∈ ds ++ et, d.length = 32 := by
    intro d hd
    rcases List.mem_append.1 hd with h | h
    · exact he d h
    · exact HEE.out.each d h
  have hne : ¬ mm = 0 → N ≠ m := by omega
  have heq : mm = 0 → ds ++ et = ds := fun h => by rw [List.eq_nil_of_length_eq_zero (etl.trans h), List.append_nil]
  have lra : (rootE (ds ++ et)).length = 32 := rootE_length N _ hall (by omega) heach
  have lrk : (rootE ((ds ++ et).take kk)).length = 32 := rootE_length kk _ (by rw [List.length_take, hall]; omega) (by omega) (fun d hd => heach d (List.mem_of_mem_take hd))
  clear hkk hT hE he hLO hm
  obtain ⟨i0, hi0, hz0, hz1, hz2⟩ := info_parts info_D32'
  have DRA : Hid (Dig (digC (rootE (ds ++ et))).toArray) := Dig.of lra
  have DRK : Hid (Dig (digC (rootE ((ds ++ et).take kk))).toArray) := Dig.of lrk
  have HRA : Hid ((Tryd.prog.info? 24).map (·.size) = some (digC (rootE (ds ++ et))).length) := by rw [digC, List.length_map, lra]; exact infoD
  have HRK : Hid ((Tryd.prog.info? 24).map (·.size) = some (digC (rootE ((ds ++ et).take kk))).length) := by rw [digC, List.length_map, lrk]; exact infoD
  have qA : Hid (∀ w : World, (binOp .neq 23 (digV (rootE (ds ++ et))) (digV (rootE (ds ++ et)))).run Tryd.prog w = .ok (.bool false) w) := fun w => by
    rw [run_neD w _ Tryd.underlying23 _ _ lra lra, decide_eq_true rfl]; rfl
  have qK : Hid (∀ w : World, (binOp .eql 23 (digV (rootE ((ds ++ et).take kk))) (digV (rootE ((ds ++ et).take kk)))).run Tryd.prog w = .ok (.bool true) w) := fun w => by
    rw [run_eqD w _ Tryd.underlying23 _ _ lrk lrk, decide_eq_true rfl]
  have CG : Hid (∀ w' A' c' S' j pl, Fr Nothing w w' → j ≤ 1048576 → DigL w' S' A' j pl → Calls Tryd.prog 29 #[.slice A' j c'] w' (fun e w'' => e = .returned (.tuple #[.pointer (some ⟨w'.heap.size, 0, none⟩), .bool true]) ∧ TreeN w' w'' w'.heap.size pl)) := fun w' A' c' S' j pl hf hj hD => grown_any j pl A' c' S' w' hD hj (HT.out.fr0 hf)
  have CRt : Hid (∀ w0 w' p, Fr Nothing w w' → TreeN w0 w' p (ds ++ et) → Calls Tryd.prog 32 #[.pointer (some ⟨p, 0, none⟩), .int .i64 N] w' (Same' w' (.tuple #[digV (rootE (ds ++ et)), .int .i64 0]))) := fun w0 w' p hf hN => by
    have h := Root_in w0 w' p (ds ++ et) N hN (by omega) (by omega) (HT.out.fr0 hf)
    rw [List.take_of_length_le (by omega)] at h
    exact h
  have CRk : Hid (∀ w0 w' p, Fr Nothing w w' → TreeN w0 w' p ((ds ++ et).take kk) → Calls Tryd.prog 32 #[.pointer (some ⟨p, 0, none⟩), .int .i64 kk] w' (Same' w' (.tuple #[digV (rootE ((ds ++ et).take kk)), .int .i64 0]))) := fun w0 w' p hf hN => by
    have h := Root_in w0 w' p ((ds ++ et).take kk) kk hN (by rw [List.length_take]; omega) (by rw [List.length_take]; omega) (HT.out.fr0 hf)
    rw [List.take_take, Nat.min_self] at h
    exact h
  have CRr : Hid (∀ w' A' c' S', DigL w' S' A' N (ds ++ et) → N ≤ c' → c' ≤ 9223372036854775807 → Calls Tryd.prog 21 #[.slice A' N c'] w' (Same' w' (digV (rootE (ds ++ et))))) := fun w' A' c' S' hD h1 h2 => rRootE_any N (ds ++ et) A' c' S' w' hD (by omega) h1 h2
  have CRs : Hid (∀ w' A' c' S', DigL w' S' A' N (ds ++ et) → N ≤ c' → c' ≤ 9223372036854775807 → Calls Tryd.prog 21 #[.slice A' kk c'] w' (Same' w' (digV (rootE ((ds ++ et).take kk))))) := fun w' A' c' S' hD h1 h2 => rRootE_any kk ((ds ++ et).take kk) A' c' S' w' (hD.take hkN) (by omega) (by omega) h2
  have HALL := Lib.hid hall
  have HEACH := Lib.hid heach
  have HNE := Lib.hid hne
  have HEQ := Lib.hid heq
  clear lra lrk hl etl hall heach hne heq
  unfold digV at *
  simp only [show ∀ l : List UInt8, l.map bvI = digC l from fun _ => rfl] at *
  generalize digC (rootE (ds ++ et)) = RA at *
  generalize digC (rootE ((ds ++ et).take kk)) = RK at *
  go_enter Tryd.func10, Tryd.ntmps10
  go_wp2_with fail
  refine (CK.out _ (Fr.refl _ _)).mono ?_
  rintro e w1 ⟨rfl, f1⟩
  have F1 := Lib.hid f1
  clear f1
  go_upto_region 3 with fail
  refine wp_region_st 9 Nothing [Is (.int .u8 n), Is (.int .u8 ((s.toNat : Nat) : Int)), OwnS m ds, Is (.slice A0 m0 c0), Is (.slice A0 m0 c0), Is (.int .i64 m0), Is (.int .i64 mm), Is (.slice A0 mm c0), OwnS m ds] [] (fun _ => True) (fun _ _ => false) (by kernel_rfl) (by kernel_rfl) (by kernel_rfl) (by kernel_rfl) ⟨Is.stable _, Is.stable _, OwnS.stable, Is.stable _, Is.stable _, Is.stable _, Is.stable _, Is.stable _, OwnS.stable, trivial⟩ trivial (fun _ _ _ _ h => h) trivial ?_ ?_
  · refine ⟨fun u w' d hf hR k1 k0 kM => ?_, fun u w' d hf hR k1 k0 kM => ?_, fun u w' d hf hR k1 k0 kM => ?_, fun u w' d hf hR k1 k0 kM => ?_, fun u w' d hf hR k1 k0 kM => ?_, fun u w' d hf hR k1 k0 kM => ?_, fun u w' d hf hR k1 k0 kM => ?_, fun u w' d hf hR k1 k0 kM => ?_, fun u w' d hf hR k1 k0 kM => ?_, trivial⟩
    all_goals simp only [List.take_succ_cons, List.take_zero, List.map_cons, List.map_nil, puts, Act.put, List.setIfInBounds_toArray, List.set_cons_zero, List.set_cons_succ, Nat.reduceAdd, Nat.zero_add]
    · clear hR k1 k0 kM
      refine .inl ⟨by kernel_rfl, ?_⟩
      go_simp
      exact ⟨_, rfl, Fr.refl _ _, rfl, trivial⟩
    · clear hR k1 k0 kM
      refine .inl ⟨by kernel_rfl, ?_⟩
      go_simp
      exact ⟨_, rfl, Fr.refl _ _, rfl, trivial⟩
    · have h0 : u 0 = _ := hR 0 (by kernel_rfl)
      have h1 : u 1 = _ := hR 1 (by kernel_rfl)
      clear hR k1 k0 kM
      simp only [h0, h1]
      refine .inl ⟨by kernel_rfl, ?_⟩
      go_simp
      refine (CL.out _).mono ?_
      rintro e w4 ⟨v, rfl, hG⟩
      exact ⟨_, rfl, hG.fr0.weak, OwnS.of32' hG HL.out HE.out, trivial⟩
    · clear hR k1 k0 kM
      refine .inl ⟨by kernel_rfl, ?_⟩
      go_simp
      exact ⟨_, rfl, Fr.refl _ _, rfl, trivial⟩
    · clear hR k1 k0 kM
      refine .inl ⟨by kernel_rfl, ?_⟩
      go_simp
      exact ⟨_, rfl, Fr.refl _ _, rfl, trivial⟩
    · have h4 : u 4 = _ := hR 4 (by kernel_rfl)
      clear hR k1 k0 kM
      simp only [h4]
      refine .inl ⟨by kernel_rfl, ?_⟩
      go_simp
      exact ⟨_, rfl, Fr.refl _ _, rfl, trivial⟩
    · have h5 : u 5 = _ := hR 5 (by kernel_rfl)
      clear hR k1 k0 kM
      simp only [h5]
      refine .inl ⟨by kernel_rfl, ?_⟩
      go_simp
      exact ⟨_, rfl, Fr.refl _ _, rfl, trivial⟩
    · have h3 : u 3 = _ := hR 3 (by kernel_rfl)
      have h6 : u 6 = _ := hR 6 (by kernel_rfl)
      clear hR k1 k0 kM
      simp only [h3, h6]
      refine .inl ⟨by kernel_rfl, ?_⟩
      go_simp
      exact ⟨_, rfl, Fr.refl _ _, rfl, trivial⟩
    · obtain ⟨A2, c2, h2, l2, m2, S2, D2⟩ := hR 2 (by kernel_rfl)
      clear hR k1 k0 kM
      simp only [h2]
      refine .inl ⟨by kernel_rfl, ?_⟩
      go_simp
      exact ⟨_, rfl, Fr.refl _ _, ⟨A2, c2, rfl, l2, m2, S2, D2⟩, trivial⟩
  · intro u w' hf hR kM
    have h7 : u 7 = _ := hR 7 (by omega)
    obtain ⟨A, c, h8, hcc, hcm, S, hD⟩ : OwnS m ds (u 8) w' := hR 8 (by omega)
    clear hR kM
    have F2 := Lib.hid (F1.out.trans hf)
    have D2 := Lib.hid hD
    have HC : Hid (m ≤ c ∧ c ≤ 9223372036854775807) := ⟨hcc, hcm⟩
    clear hf hD hcc hcm F1 CK CL
    simp only [List.take_succ_cons, List.take_zero, List.map_cons, List.map_nil, puts, Act.put, List.setIfInBounds_toArray, List.set_cons_zero, List.set_cons_succ, List.drop_succ_cons, List.drop_zero, Nat.reduceAdd, Nat.zero_add, h7, h8]
    generalize w' = w2 at *
    clear h7 h8
    go_wp2_with fail
    refine (CG.out _ _ _ _ _ _ F2.out (by omega) D2.out).mono ?_
    rintro e w3 ⟨rfl, hN⟩
    generalize hp : w2.heap.size = p at *
    obtain ⟨At, ct, mbt, ht1, ht2, ht3⟩ := hN
    have F3 := Lib.hid (F2.out.trans ht2)
    have D3 := Lib.hid (D2.out.fr0 ht2)
    have hl' := HL.out
    rw [hl'] at ht1 ht3
    have PT3 := Lib.hid ht1
    have PTL : Hid (∀ k, TB p At m ct mbt k → k < w3.heap.size) := ht1.ltAll
    have CCl := Lib.hid (Clone_at w3 p At m ct mbt ds ht1 (by omega))
    clear ht1 ht2 ht3 hp hl' D2 F2
    go_wp2_with fail
    refine CCl.out.mono ?_
    rintro e w4 ⟨q, rfl, hN⟩
    have N4' := Lib.hid hN
    clear hN CCl
    go_wp2
    go_loopw [11] (fun i wr => ∃ k : Nat, k ≤ mm ∧ i = .int .i64 k ∧ TreeN w3 wr q (ds ++ et.take k)) (fun i _ => mm - (intOf i).toNat)
    case atStart => exact ⟨0, by omega, rfl, by simpa using N4'.out⟩
    case round =>
      obtain ⟨k, hk, rfl, hT⟩ := hrel
      clear N4'
      obtain ⟨A1, c1, mb1, t1, t2, t3⟩ := hT
      have H1 := Lib.hid t1
      have H2 := Lib.hid t2
      have H3 := Lib.hid t3
      clear t1 t2 t3
      by_cases hlt : k < mm
      · obtain ⟨ad, d, rfl, hb, hd, hd32, hcell⟩ := (HEE.out.fr0 (F3.out.trans H2.out)).at_ hlt
        have hI : (k : Int) < (mm : Int) := by omega
        have HC2 := Lib.hid hcell
        have HI : Hid ((Tryd.prog.info? 23).map (·.size) = some (digC d).length) := by rw [digC, List.length_map, hd32]; exact info32
        have CA : Hid (Calls Tryd.prog 39 #[.pointer (some ⟨q, 0, none⟩), .agg (digC d).toArray] wr (Appended wr q A1 (ds ++ et.take k).length c1 mb1 (ds ++ et.take k) d)) := by
          refine Append_any q A1 (ds ++ et.take k).length c1 mb1 (ds ++ et.take k) d wr H1.out hd32 (by rw [List.length_append, List.length_take, HL.out]; omega) (HT.out.fr0 (F3.out.trans H2.out)) (fun j hj hb => ?_)
          have q1 := H3.out j hb
          have q2 := HLO.out
          have q3 := F3.out.size
          rcases hj with rfl | rfl <;> omega
        have HTK : Hid (ds ++ et.take (k + 1) = ds ++ et.take k ++ [d]) := by
          simp only [Hid]
          rw [List.take_add_one, hd, List.append_assoc]
          rfl
        clear hcell hd hd32
        generalize digC d = RV at *
        go_wp2_with (refine wpList_load_add rfl 23 (.tmp 48) rfl _ rfl RV _ ?hcc Tryd.underlying23 rfl HI.out (Held.go ?hold))
        case hcc => exact HC2.out
        unfold Held
        go_wp2_with fail
        refine CA.out.mono ?_
        rintro e wq hA
        have NQ := Lib.hid (TreeN.append H3.out H2.out hA)
        obtain ⟨rfl, _⟩ := hA
        rw [← HTK.out] at NQ
        clear H1 H2 H3 HC2 CA
        go_wp2
        go_roundw
        case rel => exact ⟨k + 1, by omega, by go_num, NQ.out⟩
        case measure => simp [intOf]; omega
      · obtain rfl : mm = k := by omega
        have htk : et.take mm = et := List.take_of_length_le (by rw [HETL.out]; exact Nat.le_refl _)
        rw [htk] at H1 H3
        have hall' := HALL.out
        rw [hall'] at H1 H3
        have F5 := Lib.hid (F3.out.trans H2.out)
        have D5 := Lib.hid (D3.out.fr0 H2.out)
        have E5 := Lib.hid (HEE.out.fr0 F5.out)
        have PT5 := Lib.hid (PT3.out.fr0 H2.out)
        have OD : Hid (∀ u ∈ ds.flatMap digC, u.oneCell' = true) := by
          intro u hu
          obtain ⟨d, _, hd⟩ := List.mem_flatMap.1 hu
          exact oneCell_bvI d u hd
        have OE : Hid (∀ u ∈ et.flatMap digC, u.oneCell' = true) := by
          intro u hu
          obtain ⟨d, _, hd⟩ := List.mem_flatMap.1 hu
          exact oneCell_bvI d u hd
        clear htk hall' hlt hk PT3 D3
        go_wp2_with (refine wpList_emptyRow rfl 22 23 rfl i0 Tryd.underlying22 hi0 ?_)
        intro wa na
        have NA := Lib.hid na
        clear na
        generalize hg1 : wr.heap.size = g1 at *
        have HG1 := Lib.hid hg1
        clear hg1
        have O1 : Hid (wa.ownsRow 0 23 32 (.slice (some ⟨g1, 0, none⟩) 0 0) 0 []) := by rw [← HG1.out]; exact NA.out.own0
        go_wp2_with (refine wpList_app _ rfl _ _ 22 rfl 23 i0 zero32 32 32 Tryd.underlying22 hi0 hz0 hz1 hz2 rfl (by decide) _ _ _ rfl O1.out S A m c (ds.flatMap digC) rfl (D5.out.fr0 NA.out.fr).rd OD.out (by omega) (by decide) (Held.go ?hold2))
        unfold Held
        intro v2 wb hG
        have K2 : Hid (Grew 23 32 wr (.slice none 0 0) wb v2 m (ds.flatMap digC)) := by
          have h := Grew.fresh NA.out.fr (fun k hk => by simp only [Value.ownBlock, Option.some.injEq] at hk; have := HG1.out; omega) hG
          exact h
        obtain ⟨A7, n7, c7, rfl, H7, _⟩ := own_slice K2.out.own
        clear hG NA HG1 O1
        go_wp2_with (refine wpList_app _ rfl _ _ 22 rfl 23 i0 zero32 32 32 Tryd.underlying22 hi0 hz0 hz1 hz2 rfl (by decide) _ _ _ rfl K2.out.own S0 A0 mm c0 (et.flatMap digC) rfl (E5.out.fr0 K2.out.fr0).rd OE.out (by omega) (by decide) (Held.go ?hold3))
        unfold Held
        intro v6 w6 hG
        have K6 : Hid (Grew 23 32 wr (.slice none 0 0) w6 v6 N ((ds ++ et).flatMap digC)) := by
          have h := K2.out.trans hG
          rw [← List.flatMap_append, show m + mm = N by omega] at h
          exact h
        obtain ⟨AA, cA, rfl, hDA, hcA, hmA, f6⟩ := DigL.of_grew32 K6.out HALL.out HEACH.out
        have KN := Lib.hid K6.out.new
        have HCA : Hid (N ≤ cA ∧ cA ≤ 9223372036854775807) := ⟨hcA, hmA⟩
        have b1 : (kk : Int) ≤ (cA : Int) := by omega
        have b2 : (kk : Int) ≤ (N : Int) := by omega
        have b4 : (N : Int) ≤ (cA : Int) := by omega
        have DA6 := Lib.hid hDA
        have F6 := Lib.hid (F5.out.trans f6)
        have G6 := Lib.hid (H2.out.trans f6)
        have PT6 := Lib.hid (PT5.out.fr0 f6)
        have QC6 := Lib.hid (H1.out.fr0 f6)
        have QLT : Hid (∀ j, TB q A1 N c1 mb1 j → j < wr.heap.size) := H1.out.ltAll
        have R6 := Lib.hid f6
        have QCC : Hid (N ≤ c1) := H1.out.cap
        have WS : Hid (wr.heap.size ≤ w6.heap.size ∧ w3.heap.size ≤ wr.heap.size) := ⟨f6.size, H2.out.size⟩
        clear hG K2 K6 hDA hcA hmA f6 F5 D5 E5 PT5 H1 H2 H7 OD OE
        obtain ⟨eb, heb⟩ : ∃ eb : Bool, eb = decide (mm = 0) := ⟨_, rfl⟩
        have te : ((mm : Int) == 0) = eb := by rw [heb, Bool.eq_iff_iff]; simp
        have te2 : (mm == 0) = eb := by rw [heb, Bool.eq_iff_iff]; simp
        have te3 : decide (mm = 0) = eb := heb.symm
        have CE1 : Hid (∀ w', Fr Nothing w6 w' → Calls Tryd.prog 41 #[.pointer (some ⟨q, 0, none⟩), .pointer (some ⟨p, 0, none⟩)] w' (Same' w' (.bool eb))) := fun w' hf => by
          have h1 := QC6.out.fr0 hf
          have h2 := PT6.out.fr0 hf
          by_cases h : mm = 0
          · rw [heb, decide_eq_true h]
            rw [HEQ.out h] at h1
            exact treeEq_yes w' q p A1 At N c1 m ct mb1 mbt ds _ _ h1 h2 (by omega)
          · rw [heb, decide_eq_false h]
            exact treeEq_no w' q p A1 At N c1 m ct mb1 mbt _ _ _ _ h1 h2 (HNE.out h)
        have CT1 : Hid (∀ w', Fr Nothing w6 w' → Calls Tryd.prog 40 #[.pointer (some ⟨q, 0, none⟩), .int .i64 N1] w' (Same' w' (.int .i64 2))) := fun w' hf => Truncate_out w' q A1 N c1 mb1 _ _ N1 (QC6.out.fr0 hf) (by omega)
        have CT2 : Hid (∀ w', Fr Nothing w6 w' → Calls Tryd.prog 40 #[.pointer (some ⟨q, 0, none⟩), .int .i64 (-1)] w' (Same' w' (.int .i64 2))) := fun w' hf => Truncate_out w' q A1 N c1 mb1 _ _ (-1) (QC6.out.fr0 hf) (by omega)
        have CC2 : Hid (∀ w', Fr Nothing w6 w' → Calls Tryd.prog 38 #[.pointer (some ⟨q, 0, none⟩)] w' (fun e w'' => ∃ g, e = .returned (.pointer (some ⟨g, 0, none⟩)) ∧ TreeN w' w'' g (ds ++ et))) := fun w' hf => Clone_at w' q A1 N c1 mb1 _ (QC6.out.fr0 hf) (by omega)
        clear heb HEQ HNE
        go_upto_region 14 with fail
        refine wp_region_sq 27 Nothing [Is (.pointer (some ⟨q, 0, none⟩)), Is (.slice AA N cA), Is (.int .i64 N), Is (.int .i64 N1), Is (.int .i64 2), Is (.bool false), Is (.bool false), Is (.pointer (some ⟨q, 0, none⟩)), Is (.int .i64 2), Is (.bool false), Is (.bool false), Is (.bool false), Is (.pointer (some ⟨q, 0, none⟩)), Is (.pointer (some ⟨p, 0, none⟩)), Is (.bool eb), Is (.slice A0 mm c0), Is (.int .i64 mm), Is (.bool eb), Is (.bool false), Is (.bool false), Is (.bool false), Is (.pointer (some ⟨q, 0, none⟩)), Is (.pointer (some ⟨q, 0, none⟩)), CloneF N (ds ++ et), Is (.bool true), Is (.bool false), Is (.bool false)] [] (fun _ => True) (fun _ _ => false) (by kernel_rfl) (by kernel_rfl) (by kernel_rfl) ⟨Is.stable _, Is.stable _, Is.stable _, Is.stable _, Is.stable _, Is.stable _, Is.stable _, Is.stable _, Is.stable _, Is.stable _, Is.stable _, Is.stable _, Is.stable _, Is.stable _, Is.stable _, Is.stable _, Is.stable _, Is.stable _, Is.stable _, Is.stable _, Is.stable _, Is.stable _, Is.stable _, CloneF.stable, Is.stable _, Is.stable _, Is.stable _, trivial⟩ trivial (fun _ _ _ _ h => h) trivial ?_ ?_
        · refine ⟨fun u w' d hf hR k1 k0 kM => ?_, fun u w' d hf hR k1 k0 kM => ?_, fun u w' d hf hR k1 k0 kM => ?_, fun u w' d hf hR k1 k0 kM => ?_, fun u w' d hf hR k1 k0 kM => ?_, fun u w' d hf hR k1 k0 kM => ?_, fun u w' d hf hR k1 k0 kM => ?_, fun u w' d hf hR k1 k0 kM => ?_, fun u w' d hf hR k1 k0 kM => ?_, fun u w' d hf hR k1 k0 kM => ?_, fun u w' d hf hR k1 k0 kM => ?_, fun u w' d hf hR k1 k0 kM => ?_, fun u w' d hf hR k1 k0 kM => ?_, fun u w' d hf hR k1 k0 kM => ?_, fun u w' d hf hR k1 k0 kM => ?_, fun u w' d hf hR k1 k0 kM => ?_, fun u w' d hf hR k1 k0 kM => ?_, fun u w' d hf hR k1 k0 kM => ?_, fun u w' d hf hR k1 k0 kM => ?_, fun u w' d hf hR k1 k0 kM => ?_, fun u w' d hf hR k1 k0 kM => ?_, fun u w' d hf hR k1 k0 kM => ?_, fun u w' d hf hR k1 k0 kM => ?_, fun u w' d hf hR k1 k0 kM => ?_, fun u w' d hf hR k1 k0 kM => ?_, fun u w' d hf hR k1 k0 kM => ?_, fun u w' d hf hR k1 k0 kM => ?_, trivial⟩
          all_goals simp only [List.take_succ_cons, List.take_zero, List.map_cons, List.map_nil, puts, Act.put, List.setIfInBounds_toArray, List.set_cons_zero, List.set_cons_succ, Nat.reduceAdd, Nat.zero_add]
          · clear hR k1 k0 kM
            refine .inl ⟨by kernel_rfl, ?_⟩
            go_simp
            exact ⟨_, rfl, Fr.refl _ _, rfl, trivial⟩
          · clear hR k1 k0 kM
            refine .inl ⟨by kernel_rfl, ?_⟩
            go_simp
            exact ⟨_, rfl, Fr.refl _ _, rfl, trivial⟩
          · have h1 : u 1 = _ := hR 1 (by kernel_rfl)
            clear hR k1 k0 kM
            simp only [h1]
            refine .inl ⟨by kernel_rfl, ?_⟩
            go_simp
            exact ⟨_, rfl, Fr.refl _ _, rfl, trivial⟩
          · have h2 : u 2 = _ := hR 2 (by kernel_rfl)
            clear hR k1 k0 kM
            simp only [h2]
            refine .inl ⟨by kernel_rfl, ?_⟩
            go_simp
            exact ⟨_, rfl, Fr.refl _ _, rfl, trivial⟩
          · have h0 : u 0 = _ := hR 0 (by kernel_rfl)
            have h3 : u 3 = _ := hR 3 (by kernel_rfl)
            clear hR k1 k0 kM
            simp only [h0, h3]
            refine .inl ⟨by kernel_rfl, ?_⟩
            go_simp
            refine (CT1.out _ hf).mono ?_
            rintro e w4 ⟨rfl, f4⟩
            exact ⟨_, rfl, f4.weak, rfl, trivial⟩
          · have h4 : u 4 = _ := hR 4 (by kernel_rfl)
            clear hR k1 k0 kM
            simp only [h4]
            refine .inl ⟨by kernel_rfl, ?_⟩
            go_simp
            exact ⟨_, rfl, Fr.refl _ _, rfl, trivial⟩
          · have h5 : u 5 = _ := hR 5 (by kernel_rfl)
            clear hR k1 k0 kM
            simp only [h5]
            refine .inl ⟨by kernel_rfl, ?_⟩
            go_simp
            exact ⟨_, rfl, Fr.refl _ _, rfl, trivial⟩
          · have h6 : u 6 = _ := hR 6 (by kernel_rfl)
            clear hR k1 k0 kM
            simp only [h6]
            refine .inl ⟨by kernel_rfl, ?_⟩
            go_simp
            exact ⟨_, rfl, Fr.refl _ _, rfl, trivial⟩
          · have h7 : u 7 = _ := hR 7 (by kernel_rfl)
            have h6 : u 6 = _ := hR 6 (by kernel_rfl)
            clear hR k1 k0 kM
            simp only [h7, h6]
            refine .inl ⟨by kernel_rfl, ?_⟩
            go_simp
            refine (CT2.out _ hf).mono ?_
            rintro e w4 ⟨rfl, f4⟩
            exact ⟨_, rfl, f4.weak, rfl, trivial⟩
          · have h8 : u 8 = _ := hR 8 (by kernel_rfl)
            have h6 : u 6 = _ := hR 6 (by kernel_rfl)
            clear hR k1 k0 kM
            simp only [h8, h6]
            refine .inl ⟨by kernel_rfl, ?_⟩
            go_simp
            exact ⟨_, rfl, Fr.refl _ _, rfl, trivial⟩
          · have h6 : u 6 = _ := hR 6 (by kernel_rfl)
            have h9 : u 9 = _ := hR 9 (by kernel_rfl)
            clear hR k1 k0 kM
            simp only [h6, h9]
            refine .inl ⟨by kernel_rfl, ?_⟩
            go_simp
            exact ⟨_, rfl, Fr.refl _ _, rfl, trivial⟩
          · have h10 : u 10 = _ := hR 10 (by kernel_rfl)
            clear hR k1 k0 kM
            simp only [h10]
            refine .inl ⟨by kernel_rfl, ?_⟩
            go_simp
            exact ⟨_, rfl, Fr.refl _ _, rfl, trivial⟩
          · have h11 : u 11 = _ := hR 11 (by kernel_rfl)
            clear hR k1 k0 kM
            simp only [h11]
            refine .inl ⟨by kernel_rfl, ?_⟩
            go_simp
            exact ⟨_, rfl, Fr.refl _ _, rfl, trivial⟩
          · have h11 : u 11 = _ := hR 11 (by kernel_rfl)
            clear hR k1 k0 kM
            simp only [h11]
            refine .inl ⟨by kernel_rfl, ?_⟩
            go_simp
            exact ⟨_, rfl, Fr.refl _ _, rfl, trivial⟩
          · have h12 : u 12 = _ := hR 12 (by kernel_rfl)
            have h13 : u 13 = _ := hR 13 (by kernel_rfl)
            have h11 : u 11 = _ := hR 11 (by kernel_rfl)
            clear hR k1 k0 kM
            simp only [h12, h13, h11]
            refine .inl ⟨by kernel_rfl, ?_⟩
            go_simp
            refine (CE1.out _ hf).mono ?_
            rintro e w4 ⟨rfl, f4⟩
            exact ⟨_, rfl, f4.weak, rfl, trivial⟩
          · have h11 : u 11 = _ := hR 11 (by kernel_rfl)
            clear hR k1 k0 kM
            simp only [h11]
            refine .inl ⟨by kernel_rfl, ?_⟩
            go_simp
            exact ⟨_, rfl, Fr.refl _ _, rfl, trivial⟩
          · have h15 : u 15 = _ := hR 15 (by kernel_rfl)
            have h11 : u 11 = _ := hR 11 (by kernel_rfl)
            clear hR k1 k0 kM
            simp only [h15, h11]
            refine .inl ⟨by kernel_rfl, ?_⟩
            go_simp
            exact ⟨_, rfl, Fr.refl _ _, rfl, trivial⟩
          · have h16 : u 16 = _ := hR 16 (by kernel_rfl)
            have h11 : u 11 = _ := hR 11 (by kernel_rfl)
            clear hR k1 k0 kM
            simp only [h16, h11]
            refine .inl ⟨by kernel_rfl, ?_⟩
            go_simp
            exact ⟨_, rfl, Fr.refl _ _, rfl, trivial⟩
          · have h14 : u 14 = _ := hR 14 (by kernel_rfl)
            have h17 : u 17 = _ := hR 17 (by kernel_rfl)
            have h11 : u 11 = _ := hR 11 (by kernel_rfl)
            clear hR k1 k0 kM
            simp only [h14, h17, h11]
            refine .inl ⟨by kernel_rfl, ?_⟩
            cases eb <;> (go_simp; exact ⟨_, rfl, Fr.refl _ _, rfl, trivial⟩)
          · have h11 : u 11 = _ := hR 11 (by kernel_rfl)
            have h18 : u 18 = _ := hR 18 (by kernel_rfl)
            clear hR k1 k0 kM
            simp only [h11, h18]
            refine .inl ⟨by kernel_rfl, ?_⟩
            go_simp
            exact ⟨_, rfl, Fr.refl _ _, rfl, trivial⟩
          · have h19 : u 19 = _ := hR 19 (by kernel_rfl)
            clear hR k1 k0 kM
            simp only [h19]
            refine .inl ⟨by kernel_rfl, ?_⟩
            go_simp
            exact ⟨_, rfl, Fr.refl _ _, rfl, trivial⟩
          · have h20 : u 20 = _ := hR 20 (by kernel_rfl)
            clear hR k1 k0 kM
            simp only [h20]
            refine .inl ⟨by kernel_rfl, ?_⟩
            go_simp
            exact ⟨_, rfl, Fr.refl _ _, rfl, trivial⟩
          · have h20 : u 20 = _ := hR 20 (by kernel_rfl)
            clear hR k1 k0 kM
            simp only [h20]
            refine .inl ⟨by kernel_rfl, ?_⟩
            go_simp
            exact ⟨_, rfl, Fr.refl _ _, rfl, trivial⟩
          · have h22 : u 22 = _ := hR 22 (by kernel_rfl)
            have h20 : u 20 = _ := hR 20 (by kernel_rfl)
            clear hR k1 k0 kM
            simp only [h22, h20]
            refine .inl ⟨by kernel_rfl, ?_⟩
            go_simp
            refine (CC2.out _ hf).mono ?_
            rintro e w4 ⟨g, rfl, hN⟩
            have hff : Fr Nothing w' w4 := by obtain ⟨_, _, _, _, h, _⟩ := hN; exact h
            exact ⟨_, rfl, hff, CloneF.of hN HALL.out, trivial⟩
          · have h21 : u 21 = _ := hR 21 (by kernel_rfl)
            obtain ⟨g23, A23, c23, mb23, h23, t23⟩ := hR 23 (by kernel_rfl)
            have h20 : u 20 = _ := hR 20 (by kernel_rfl)
            clear hR k1 k0 kM
            simp only [h21, h23, h20]
            refine .inl ⟨by kernel_rfl, ?_⟩
            go_simp
            refine (treeEq_yes _ q g23 A1 A23 N c1 N c23 mb1 mb23 _ _ _ (QC6.out.fr0 hf) t23 (by omega)).mono ?_
            rintro e w4 ⟨rfl, f4⟩
            exact ⟨_, rfl, f4.weak, rfl, trivial⟩
          · have h24 : u 24 = _ := hR 24 (by kernel_rfl)
            have h20 : u 20 = _ := hR 20 (by kernel_rfl)
            clear hR k1 k0 kM
            simp only [h24, h20]
            refine .inl ⟨by kernel_rfl, ?_⟩
            go_simp
            exact ⟨_, rfl, Fr.refl _ _, rfl, trivial⟩
          · have h20 : u 20 = _ := hR 20 (by kernel_rfl)
            have h25 : u 25 = _ := hR 25 (by kernel_rfl)
            clear hR k1 k0 kM
            simp only [h20, h25]
            refine .inl ⟨by kernel_rfl, ?_⟩
            go_simp
            exact ⟨_, rfl, Fr.refl _ _, rfl, trivial⟩
        · intro u w' hf hR kM
          have h26 : u 26 = _ := hR 26 (by omega)
          clear hR kM CT1 CT2 CE1 CC2
          have Fv101 := Lib.hid (F6.out.trans hf)
          have Gv102 := Lib.hid (G6.out.trans hf)
          have Rv103 := Lib.hid (R6.out.trans hf)
          have PTv104 := Lib.hid (PT6.out.fr0 hf)
          have QCv105 := Lib.hid (QC6.out.fr0 hf)
          have DAv106 := Lib.hid (DA6.out.fr0 hf)
          clear F6 G6 R6 PT6 QC6 DA6 hf
          simp only [List.take_succ_cons, List.take_zero, List.map_cons, List.map_nil, puts, Act.put, List.setIfInBounds_toArray, List.set_cons_zero, List.set_cons_succ, List.drop_succ_cons, List.drop_zero, Nat.reduceAdd, Nat.zero_add, h26]
          generalize w' = w7 at *
          go_wp2_with fail
          refine (CRt.out w3 _ _ Fv101.out (QCv105.out.back Gv102.out H3.out)).mono ?_
          rintro e w8 ⟨rfl, ff107⟩
          have Fv108 := Lib.hid (Fv101.out.trans ff107)
          have Gv109 := Lib.hid (Gv102.out.trans ff107)
          have Rv110 := Lib.hid (Rv103.out.trans ff107)
          have PTv111 := Lib.hid (PTv104.out.fr0 ff107)
          have QCv112 := Lib.hid (QCv105.out.fr0 ff107)
          have DAv113 := Lib.hid (DAv106.out.fr0 ff107)
          clear Fv101 Gv102 Rv103 PTv104 QCv105 DAv106 ff107
          go_wp2_with (refine wpList_allocBlk rfl 24 rfl zero32 zvD zero32c rfl ?_)
          intro wb114_0 nn114_0
          have NB114_0 := Lib.hid nn114_0
          clear nn114_0
          generalize hg114_0 : w8.heap.size = g14 at *
          have HG114_0 := Lib.hid hg114_0
          clear hg114_0
          have LG14 : Hid (wr.heap.size ≤ g14) := by have q1 := HG114_0.out; have q2 := Rv110.out.size; simp only [Hid]; omega
          go_wp2_with (refine wpList_storeBlk rfl 24 (.tmp 14) _ rfl g14 RA.toArray rfl rfl _ _ (by have h := NB114_0.out.blk; rw [HG114_0.out] at h; exact h) DRA.out.info DRA.out.zero DRA.out.one ?_)
          intro wb114_1 bb ff
          have BS114_0 := Lib.hid bb
          have FS114_0 := Lib.hid ff
          clear bb ff
          have FF114 : Hid (Fr Nothing w8 wb114_1) := (NB114_0.out.fr.then_ FS114_0.out (fun i hi e => by have e' : i = g14 := e; have q0 := HG114_0.out; have s0 := NB114_0.out.size; omega))
          have Fv115 := Lib.hid (Fv108.out.trans FF114.out)
          have Gv116 := Lib.hid (Gv109.out.trans FF114.out)
          have Rv117 := Lib.hid (Rv110.out.trans FF114.out)
          have PTv118 := Lib.hid (PTv111.out.fr0 FF114.out)
          have QCv119 := Lib.hid (QCv112.out.fr0 FF114.out)
          have DAv120 := Lib.hid (DAv113.out.fr0 FF114.out)
          clear Fv108 Gv109 Rv110 PTv111 QCv112 DAv113
          have J14v121 := Lib.hid (BS114_0.out)
          clear BS114_0 FS114_0 NB114_0 HG114_0 FF114
          go_wp2_with fail
          refine (CG.out _ _ _ _ kk _ Fv115.out (by omega) (DAv120.out.take hkN)).mono ?_
          rintro e wJ ⟨rfl, hN⟩
          have LPO : Hid (wr.heap.size ≤ wb114_1.heap.size) := Rv117.out.size
          generalize hpo : wb114_1.heap.size = po at *
          obtain ⟨Ao, co, mbo, ho1, ho2, ho3⟩ := hN
          have hkl : ((ds ++ et).take kk).length = kk := by rw [List.length_take, HALL.out]; omega
          rw [hkl] at ho1 ho3
          have OT0 := Lib.hid ho1
          have HOB : Hid (∀ k, TB po Ao kk co mbo k → wr.heap.size ≤ k) := fun k hk => by have q1 := ho3 k hk; have q2 := LPO.out; omega
          have Fv122 := Lib.hid (Fv115.out.trans ho2)
          have Gv123 := Lib.hid (Gv116.out.trans ho2)
          have Rv124 := Lib.hid (Rv117.out.trans ho2)
          have PTv125 := Lib.hid (PTv118.out.fr0 ho2)
          have QCv126 := Lib.hid (QCv119.out.fr0 ho2)
          have DAv127 := Lib.hid (DAv120.out.fr0 ho2)
          have J14v128 := Lib.hid (J14v121.out.fr ho2 (fun x => x))
          clear Fv115 Gv116 Rv117 PTv118 QCv119 DAv120 J14v121 ho1 ho2 ho3 hpo hkl
          go_upto_region 19 with fail
          refine wp_region_st 18 (fun k => w3.heap.size ≤ k ∧ k < wr.heap.size) [Is (.int .i64 0), Is (.bool false), Is (.bool false), Is (.agg RA.toArray), Is (.slice AA N cA), Is (.agg RA.toArray), Is (.bool false), Is (.bool false), Is (.bool false), Is (.pointer (some ⟨q, 0, none⟩)), Is (.int .i64 kk), Is (.int .i64 0), Is (.bool false), Is (.bool false), Is (.bool false), Is (.bool true), Is (.bool false), Is (.bool false)] [(11, CutM wr.heap.size q kk mb1 (ds ++ et))] (fun W => TreeC W q A1 N c1 mb1 (ds ++ et) (partC N)) (fun _ _ => false) (by kernel_rfl) (by kernel_rfl) (by kernel_rfl) (by kernel_rfl) ⟨Is.stable _, Is.stable _, Is.stable _, Is.stable _, Is.stable _, Is.stable _, Is.stable _, Is.stable _, Is.stable _, Is.stable _, Is.stable _, Is.stable _, Is.stable _, Is.stable _, Is.stable _, Is.stable _, Is.stable _, Is.stable _, trivial⟩ ⟨fun _ _ _ hf h => h.fr0 hf, trivial⟩ (fun _ _ _ hf h => h.fr0 hf) (QCv126.out.fr0 ((Fr.refl Nothing _).drew)) ?_ ?_
          · refine ⟨fun u w' d hf hR k1 k0 kM => ?_, fun u w' d hf hR k1 k0 kM => ?_, fun u w' d hf hR k1 k0 kM => ?_, fun u w' d hf hR k1 k0 kM => ?_, fun u w' d hf hR k1 k0 kM => ?_, fun u w' d hf hR k1 k0 kM => ?_, fun u w' d hf hR k1 k0 kM => ?_, fun u w' d hf hR k1 k0 kM => ?_, fun u w' d hf hR k1 k0 kM => ?_, fun u w' d hf hR k1 k0 kM => ?_, fun u w' d hf hR k1 k0 kM => ?_, fun u w' d hf hR k1 k0 kM => ?_, fun u w' d hf hR k1 k0 kM => ?_, fun u w' d hf hR k1 k0 kM => ?_, fun u w' d hf hR k1 k0 kM => ?_, fun u w' d hf hR k1 k0 kM => ?_, fun u w' d hf hR k1 k0 kM => ?_, fun u w' d hf hR k1 k0 kM => ?_, trivial⟩
            all_goals simp only [List.take_succ_cons, List.take_zero, List.map_cons, List.map_nil, puts, Act.put, List.setIfInBounds_toArray, List.set_cons_zero, List.set_cons_succ, Nat.reduceAdd, Nat.zero_add]
            · clear hR k1 k0 kM
              refine .inl ⟨by kernel_rfl, ?_⟩
              go_simp
              exact ⟨_, rfl, Fr.refl _ _, rfl, trivial⟩
            · have h0 : u 0 = _ := hR 0 (by kernel_rfl)
              clear hR k1 k0 kM
              simp only [h0]
              refine .inl ⟨by kernel_rfl, ?_⟩
              go_simp
              exact ⟨_, rfl, Fr.refl _ _, rfl, trivial⟩
            · have h1 : u 1 = _ := hR 1 (by kernel_rfl)
              clear hR k1 k0 kM
              simp only [h1]
              refine .inl ⟨by kernel_rfl, ?_⟩
              go_simp
              exact ⟨_, rfl, Fr.refl _ _, rfl, trivial⟩
            · have h2 : u 2 = _ := hR 2 (by kernel_rfl)
              clear hR k1 k0 kM
              simp only [h2]
              refine .inl ⟨by kernel_rfl, ?_⟩
              exact wp_load_mid _ _ rfl g14 0 rfl RA _ (range_blk (J14v128.out.fr hf (fun e => by have q1 := LG14.out; have e2 : w3.heap.size ≤ g14 ∧ g14 < wr.heap.size := e; omega))) Tryd.underlying24 rfl HRA.out ⟨_, rfl, Fr.refl _ _, rfl, trivial⟩
            · have h2 : u 2 = _ := hR 2 (by kernel_rfl)
              clear hR k1 k0 kM
              simp only [h2]
              refine .inl ⟨by kernel_rfl, ?_⟩
              go_simp
              exact ⟨_, rfl, Fr.refl _ _, rfl, trivial⟩
            · have h4 : u 4 = _ := hR 4 (by kernel_rfl)
              have h2 : u 2 = _ := hR 2 (by kernel_rfl)
              clear hR k1 k0 kM
              simp only [h4, h2]
              refine .inl ⟨by kernel_rfl, ?_⟩
              go_simp
              refine (CRr.out _ _ _ _ (DAv127.out.fr hf (fun j hj e => by have q1 := KN.out j hj; have e2 : w3.heap.size ≤ j ∧ j < wr.heap.size := e; omega)) HCA.out.1 HCA.out.2).mono ?_
              rintro e w4 ⟨rfl, f4⟩
              exact ⟨_, rfl, f4.weak, rfl, trivial⟩
            · have h3 : u 3 = _ := hR 3 (by kernel_rfl)
              have h5 : u 5 = _ := hR 5 (by kernel_rfl)
              have h2 : u 2 = _ := hR 2 (by kernel_rfl)
              clear hR k1 k0 kM
              simp only [h3, h5, h2]
              refine .inl ⟨by kernel_rfl, ?_⟩
              exact wp_binAgg _ _ _ _ _ rfl _ _ rfl rfl Tryd.eqGuardType23 _ (qA.out _) ⟨_, rfl, Fr.refl _ _, rfl, trivial⟩
            · have h2 : u 2 = _ := hR 2 (by kernel_rfl)
              have h6 : u 6 = _ := hR 6 (by kernel_rfl)
              clear hR k1 k0 kM
              simp only [h2, h6]
              refine .inl ⟨by kernel_rfl, ?_⟩
              go_simp
              exact ⟨_, rfl, Fr.refl _ _, rfl, trivial⟩
            · have h7 : u 7 = _ := hR 7 (by kernel_rfl)
              clear hR k1 k0 kM
              simp only [h7]
              refine .inl ⟨by kernel_rfl, ?_⟩
              go_simp
              exact ⟨_, rfl, Fr.refl _ _, rfl, trivial⟩
            · have h8 : u 8 = _ := hR 8 (by kernel_rfl)
              clear hR k1 k0 kM
              simp only [h8]
              refine .inl ⟨by kernel_rfl, ?_⟩
              go_simp
              exact ⟨_, rfl, Fr.refl _ _, rfl, trivial⟩
            · have h8 : u 8 = _ := hR 8 (by kernel_rfl)
              clear hR k1 k0 kM
              simp only [h8]
              refine .inl ⟨by kernel_rfl, ?_⟩
              go_simp
              exact ⟨_, rfl, Fr.refl _ _, rfl, trivial⟩
            · have h9 : u 9 = _ := hR 9 (by kernel_rfl)
              have h10 : u 10 = _ := hR 10 (by kernel_rfl)
              have h8 : u 8 = _ := hR 8 (by kernel_rfl)
              clear hR
              simp only [h9, h10, h8]
              refine .inl ⟨by kernel_rfl, ?_⟩
              have hM : TreeC w' q A1 N c1 mb1 (ds ++ et) (partC N) := by rw [stage, if_neg (by rw [k0 11 (by kernel_rfl)]; exact Bool.false_ne_true)] at kM; exact kM
              clear k1 k0 kM
              go_simp
              refine (Truncate_in w' q A1 N c1 mb1 (ds ++ et) kk hM (by omega) hkN QCC.out).mono ?_
              rintro e w4 ⟨rfl, A9, c9, hT9, hF9, hB9⟩
              exact ⟨_, rfl, hF9.mono (fun i _ e => ⟨H3.out i e, QLT.out i e⟩), rfl, A9, c9, hT9, fun i hi => Nat.le_trans (Nat.le_trans Rv124.out.size hf.size) (hB9 i hi)⟩
            · have h11 : u 11 = _ := hR 11 (by kernel_rfl)
              have h8 : u 8 = _ := hR 8 (by kernel_rfl)
              clear hR k1 k0 kM
              simp only [h11, h8]
              refine .inl ⟨by kernel_rfl, ?_⟩
              go_simp
              exact ⟨_, rfl, Fr.refl _ _, rfl, trivial⟩
            · have h8 : u 8 = _ := hR 8 (by kernel_rfl)
              have h12 : u 12 = _ := hR 12 (by kernel_rfl)
              clear hR k1 k0 kM
              simp only [h8, h12]
              refine .inl ⟨by kernel_rfl, ?_⟩
              go_simp
              exact ⟨_, rfl, Fr.refl _ _, rfl, trivial⟩
            · have h13 : u 13 = _ := hR 13 (by kernel_rfl)
              clear hR k1 k0 kM
              simp only [h13]
              refine .inl ⟨by kernel_rfl, ?_⟩
              go_simp
              exact ⟨_, rfl, Fr.refl _ _, rfl, trivial⟩
            · have h14 : u 14 = _ := hR 14 (by kernel_rfl)
              clear hR k1 k0 kM
              simp only [h14]
              refine .inl ⟨by kernel_rfl, ?_⟩
              go_simp
              exact ⟨_, rfl, Fr.refl _ _, rfl, trivial⟩
            · have h15 : u 15 = _ := hR 15 (by kernel_rfl)
              have h14 : u 14 = _ := hR 14 (by kernel_rfl)
              clear hR k1 k0 kM
              simp only [h15, h14]
              refine .inl ⟨by kernel_rfl, ?_⟩
              go_simp
              exact ⟨_, rfl, Fr.refl _ _, rfl, trivial⟩
            · have h14 : u 14 = _ := hR 14 (by kernel_rfl)
              have h16 : u 16 = _ := hR 16 (by kernel_rfl)
              clear hR k1 k0 kM
              simp only [h14, h16]
              refine .inl ⟨by kernel_rfl, ?_⟩
              go_simp
              exact ⟨_, rfl, Fr.refl _ _, rfl, trivial⟩
          · intro u w' hf hR kM
            have h17 : u 17 = _ := hR 17 (by omega)
            obtain ⟨A9, c9, hT9, hB9⟩ : CutM wr.heap.size q kk mb1 (ds ++ et) w' := kM
            clear hR
            have FK := Lib.hid (Fv122.out.then_ hf (fun i hi e => by have q1 := F3.out.size; have e2 : w3.heap.size ≤ i ∧ i < wr.heap.size := e; omega))
            have GK := Lib.hid (Gv123.out.then_ hf (fun i hi e => by have e2 : w3.heap.size ≤ i ∧ i < wr.heap.size := e; omega))
            have PK := Lib.hid (PTv125.out.frT hf (fun i hi e => by have q1 := PTL.out i hi; have e2 : w3.heap.size ≤ i ∧ i < wr.heap.size := e; omega))
            have OK := Lib.hid (OT0.out.frT hf (fun i hi e => by have q1 := HOB.out i hi; have e2 : w3.heap.size ≤ i ∧ i < wr.heap.size := e; omega))
            have DK := Lib.hid (DAv127.out.fr hf (fun j hj e => by have q1 := KN.out j hj; have e2 : w3.heap.size ≤ j ∧ j < wr.heap.size := e; omega))
            have QK := Lib.hid hT9
            have H9 : Hid (∀ k, TB q A9 kk c9 mb1 k → w3.heap.size ≤ k) := fun k hk => by
              rcases hk with h | h | h
              · exact H3.out k (.inl h)
              · exact H3.out k (.inr (.inl h))
              · have q1 := hB9 k h
                have q2 := WS.out
                omega
            clear Fv122 Gv123 Rv124 PTv125 QCv126 DAv127 J14v128 OT0 hf hT9 hB9
            simp only [List.take_succ_cons, List.take_zero, List.map_cons, List.map_nil, puts, Act.put, List.setIfInBounds_toArray, List.set_cons_zero, List.set_cons_succ, List.drop_succ_cons, List.drop_zero, Nat.reduceAdd, Nat.zero_add, h17]
            generalize w' = wK at *
            go_wp2_with fail
            refine (CRk.out w3 _ _ FK.out (QK.out.back GK.out H9.out)).mono ?_
            rintro e wL ⟨rfl, ff129⟩
            have Fv130 := Lib.hid (FK.out.trans ff129)
            have Gv131 := Lib.hid (GK.out.trans ff129)
            have PTv132 := Lib.hid (PK.out.fr0 ff129)
            have OTv133 := Lib.hid (OK.out.fr0 ff129)
            have DAv134 := Lib.hid (DK.out.fr0 ff129)
            have QTv135 := Lib.hid (QK.out.fr0 ff129)
            clear FK GK PK OK DK QK ff129
            go_wp2_with (refine wpList_allocBlk rfl 24 rfl zero32 zvD zero32c rfl ?_)
            intro wb136_0 nn136_0
            have NB136_0 := Lib.hid nn136_0
            clear nn136_0
            generalize hg136_0 : wL.heap.size = g18 at *
            have HG136_0 := Lib.hid hg136_0
            clear hg136_0
            go_wp2_with (refine wpList_storeBlk rfl 24 (.tmp 18) _ rfl g18 RK.toArray rfl rfl _ _ (by have h := NB136_0.out.blk; rw [HG136_0.out] at h; exact h) DRK.out.info DRK.out.zero DRK.out.one ?_)
            intro wb136_1 bb ff
            have BS136_0 := Lib.hid bb
            have FS136_0 := Lib.hid ff
            clear bb ff
            have FF136 : Hid (Fr Nothing wL wb136_1) := (NB136_0.out.fr.then_ FS136_0.out (fun i hi e => by have e' : i = g18 := e; have q0 := HG136_0.out; have s0 := NB136_0.out.size; omega))
            have Fv137 := Lib.hid (Fv130.out.trans FF136.out)
            have Gv138 := Lib.hid (Gv131.out.trans FF136.out)
            have PTv139 := Lib.hid (PTv132.out.fr0 FF136.out)
            have OTv140 := Lib.hid (OTv133.out.fr0 FF136.out)
            have DAv141 := Lib.hid (DAv134.out.fr0 FF136.out)
            have QTv142 := Lib.hid (QTv135.out.fr0 FF136.out)
            clear Fv130 Gv131 PTv132 OTv133 DAv134 QTv135
            have J18v143 := Lib.hid (BS136_0.out)
            clear BS136_0 FS136_0 NB136_0 HG136_0 FF136
            have CQO : Hid (∀ w', Fr Nothing wb136_1 w' → Calls Tryd.prog 41 #[.pointer (some ⟨q, 0, none⟩), .pointer (some ⟨po, 0, none⟩)] w' (Same' w' (.bool true))) := fun w' hf => treeEq_yes w' q po A9 Ao kk c9 kk co mb1 mbo _ _ _ (QTv142.out.fr0 hf) (OTv140.out.fr0 hf) (by omega)
            have COQ : Hid (∀ w', Fr Nothing wb136_1 w' → Calls Tryd.prog 41 #[.pointer (some ⟨po, 0, none⟩), .pointer (some ⟨q, 0, none⟩)] w' (Same' w' (.bool true))) := fun w' hf => treeEq_yes w' po q Ao A9 kk co kk c9 mbo mb1 _ _ _ (OTv140.out.fr0 hf) (QTv142.out.fr0 hf) (by omega)
            have CLq : Hid (∀ w', Fr Nothing wb136_1 w' → Calls Tryd.prog 42 #[.pointer (some ⟨q, 0, none⟩)] w' (fun e w'' => e = .returned (.int .i64 kk) ∧ w'' = w')) := fun w' hf => Len_any q A9 kk c9 w' ((QTv142.out.fr0 hf).blk.cell 0)
            have CLp : Hid (∀ w', Fr Nothing wb136_1 w' → Calls Tryd.prog 42 #[.pointer (some ⟨p, 0, none⟩)] w' (fun e w'' => e = .returned (.int .i64 m) ∧ w'' = w')) := fun w' hf => Len_any p At m ct w' ((PTv139.out.fr0 hf).blk.cell 0)
            go_upto_region 22 with fail
            refine wp_region_st 34 Nothing [Is (.int .i64 0), Is (.bool true), Is (.bool true), Is (.agg RK.toArray), Is (.slice AA N cA), Is (.int .i64 kk), Is (.slice AA kk cA), Is (.agg RK.toArray), Is (.bool true), Is (.bool true), Is (.bool true), Is (.pointer (some ⟨q, 0, none⟩)), Is (.pointer (some ⟨po, 0, none⟩)), Is (.bool true), Is (.bool true), Is (.bool true), Is (.pointer (some ⟨po, 0, none⟩)), Is (.pointer (some ⟨q, 0, none⟩)), Is (.bool true), Is (.bool true), Is (.bool true), Is (.pointer (some ⟨q, 0, none⟩)), Is (.int .i64 kk), Is (.int .i64 kk), Is (.bool true), Is (.bool true), Is (.bool true), Is (.pointer (some ⟨p, 0, none⟩)), Is (.int .i64 m), Is (.slice A m c), Is (.int .i64 m), Is (.bool true), Is (.bool true), Is (.bool true)] [] (fun _ => True) (fun _ _ => false) (by kernel_rfl) (by kernel_rfl) (by kernel_rfl) (by kernel_rfl) ⟨Is.stable _, Is.stable _, Is.stable _, Is.stable _, Is.stable _, Is.stable _, Is.stable _, Is.stable _, Is.stable _, Is.stable _, Is.stable _, Is.stable _, Is.stable _, Is.stable _, Is.stable _, Is.stable _, Is.stable _, Is.stable _, Is.stable _, Is.stable _, Is.stable _, Is.stable _, Is.stable _, Is.stable _, Is.stable _, Is.stable _, Is.stable _, Is.stable _, Is.stable _, Is.stable _, Is.stable _, Is.stable _, Is.stable _, Is.stable _, trivial⟩ trivial (fun _ _ _ _ h => h) trivial ?_ ?_
            · refine ⟨fun u w' d hf hR k1 k0 kM => ?_, fun u w' d hf hR k1 k0 kM => ?_, fun u w' d hf hR k1 k0 kM => ?_, fun u w' d hf hR k1 k0 kM => ?_, fun u w' d hf hR k1 k0 kM => ?_, fun u w' d hf hR k1 k0 kM => ?_, fun u w' d hf hR k1 k0 kM => ?_, fun u w' d hf hR k1 k0 kM => ?_, fun u w' d hf hR k1 k0 kM => ?_, fun u w' d hf hR k1 k0 kM => ?_, fun u w' d hf hR k1 k0 kM => ?_, fun u w' d hf hR k1 k0 kM => ?_, fun u w' d hf hR k1 k0 kM => ?_, fun u w' d hf hR k1 k0 kM => ?_, fun u w' d hf hR k1 k0 kM => ?_, fun u w' d hf hR k1 k0 kM => ?_, fun u w' d hf hR k1 k0 kM => ?_, fun u w' d hf hR k1 k0 kM => ?_, fun u w' d hf hR k1 k0 kM => ?_, fun u w' d hf hR k1 k0 kM => ?_, fun u w' d hf hR k1 k0 kM => ?_, fun u w' d hf hR k1 k0 kM => ?_, fun u w' d hf hR k1 k0 kM => ?_, fun u w' d hf hR k1 k0 kM => ?_, fun u w' d hf hR k1 k0 kM => ?_, fun u w' d hf hR k1 k0 kM => ?_, fun u w' d hf hR k1 k0 kM => ?_, fun u w' d hf hR k1 k0 kM => ?_, fun u w' d hf hR k1 k0 kM => ?_, fun u w' d hf hR k1 k0 kM => ?_, fun u w' d hf hR k1 k0 kM => ?_, fun u w' d hf hR k1 k0 kM => ?_, fun u w' d hf hR k1 k0 kM => ?_, fun u w' d hf hR k1 k0 kM => ?_, trivial⟩
              all_goals simp only [List.take_succ_cons, List.take_zero, List.map_cons, List.map_nil, puts, Act.put, List.setIfInBounds_toArray, List.set_cons_zero, List.set_cons_succ, Nat.reduceAdd, Nat.zero_add]
              · clear hR k1 k0 kM
                refine .inl ⟨by kernel_rfl, ?_⟩
                go_simp
                exact ⟨_, rfl, Fr.refl _ _, rfl, trivial⟩
              · have h0 : u 0 = _ := hR 0 (by kernel_rfl)
                clear hR k1 k0 kM
                simp only [h0]
                refine .inl ⟨by kernel_rfl, ?_⟩
                go_simp
                exact ⟨_, rfl, Fr.refl _ _, rfl, trivial⟩
              · have h1 : u 1 = _ := hR 1 (by kernel_rfl)
                clear hR k1 k0 kM
                simp only [h1]
                refine .inl ⟨by kernel_rfl, ?_⟩
                go_simp
                exact ⟨_, rfl, Fr.refl _ _, rfl, trivial⟩
              · have h2 : u 2 = _ := hR 2 (by kernel_rfl)
                clear hR k1 k0 kM
                simp only [h2]
                refine .inl ⟨by kernel_rfl, ?_⟩
                exact wp_load_mid _ _ rfl g18 0 rfl RK _ (range_blk (J18v143.out.fr hf (fun x => x))) Tryd.underlying24 rfl HRK.out ⟨_, rfl, Fr.refl _ _, rfl, trivial⟩
              · have h2 : u 2 = _ := hR 2 (by kernel_rfl)
                clear hR k1 k0 kM
                simp only [h2]
                refine .inl ⟨by kernel_rfl, ?_⟩
                go_simp
                exact ⟨_, rfl, Fr.refl _ _, rfl, trivial⟩
              · have h2 : u 2 = _ := hR 2 (by kernel_rfl)
                clear hR k1 k0 kM
                simp only [h2]
                refine .inl ⟨by kernel_rfl, ?_⟩
                go_simp
                exact ⟨_, rfl, Fr.refl _ _, rfl, trivial⟩
              · have h4 : u 4 = _ := hR 4 (by kernel_rfl)
                have h5 : u 5 = _ := hR 5 (by kernel_rfl)
                have h2 : u 2 = _ := hR 2 (by kernel_rfl)
                clear hR k1 k0 kM
                simp only [h4, h5, h2]
                refine .inl ⟨by kernel_rfl, ?_⟩
                go_simp
                exact ⟨_, rfl, Fr.refl _ _, rfl, trivial⟩
              · have h6 : u 6 = _ := hR 6 (by kernel_rfl)
                have h2 : u 2 = _ := hR 2 (by kernel_rfl)
                clear hR k1 k0 kM
                simp only [h6, h2]
                refine .inl ⟨by kernel_rfl, ?_⟩
                go_simp
                refine (CRs.out _ _ _ _ (DAv141.out.fr0 hf) HCA.out.1 HCA.out.2).mono ?_
                rintro e w4 ⟨rfl, f4⟩
                exact ⟨_, rfl, f4.weak, rfl, trivial⟩
              · have h3 : u 3 = _ := hR 3 (by kernel_rfl)
                have h7 : u 7 = _ := hR 7 (by kernel_rfl)
                have h2 : u 2 = _ := hR 2 (by kernel_rfl)
                clear hR k1 k0 kM
                simp only [h3, h7, h2]
                refine .inl ⟨by kernel_rfl, ?_⟩
                exact wp_binAgg _ _ _ _ _ rfl _ _ rfl rfl Tryd.eqGuardType23 _ (qK.out _) ⟨_, rfl, Fr.refl _ _, rfl, trivial⟩
              · have h2 : u 2 = _ := hR 2 (by kernel_rfl)
                have h8 : u 8 = _ := hR 8 (by kernel_rfl)
                clear hR k1 k0 kM
                simp only [h2, h8]
                refine .inl ⟨by kernel_rfl, ?_⟩
                go_simp
                exact ⟨_, rfl, Fr.refl _ _, rfl, trivial⟩
              · have h9 : u 9 = _ := hR 9 (by kernel_rfl)
                clear hR k1 k0 kM
                simp only [h9]
                refine .inl ⟨by kernel_rfl, ?_⟩
                go_simp
                exact ⟨_, rfl, Fr.refl _ _, rfl, trivial⟩
              · have h10 : u 10 = _ := hR 10 (by kernel_rfl)
                clear hR k1 k0 kM
                simp only [h10]
                refine .inl ⟨by kernel_rfl, ?_⟩
                go_simp
                exact ⟨_, rfl, Fr.refl _ _, rfl, trivial⟩
              · have h10 : u 10 = _ := hR 10 (by kernel_rfl)
                clear hR k1 k0 kM
                simp only [h10]
                refine .inl ⟨by kernel_rfl, ?_⟩
                go_simp
                exact ⟨_, rfl, Fr.refl _ _, rfl, trivial⟩
              · have h11 : u 11 = _ := hR 11 (by kernel_rfl)
                have h12 : u 12 = _ := hR 12 (by kernel_rfl)
                have h10 : u 10 = _ := hR 10 (by kernel_rfl)
                clear hR k1 k0 kM
                simp only [h11, h12, h10]
                refine .inl ⟨by kernel_rfl, ?_⟩
                go_simp
                refine (CQO.out _ hf).mono ?_
                rintro e w4 ⟨rfl, f4⟩
                exact ⟨_, rfl, f4.weak, rfl, trivial⟩
              · have h10 : u 10 = _ := hR 10 (by kernel_rfl)
                have h13 : u 13 = _ := hR 13 (by kernel_rfl)
                clear hR k1 k0 kM
                simp only [h10, h13]
                refine .inl ⟨by kernel_rfl, ?_⟩
                go_simp
                exact ⟨_, rfl, Fr.refl _ _, rfl, trivial⟩
              · have h14 : u 14 = _ := hR 14 (by kernel_rfl)
                clear hR k1 k0 kM
                simp only [h14]
                refine .inl ⟨by kernel_rfl, ?_⟩
                go_simp
                exact ⟨_, rfl, Fr.refl _ _, rfl, trivial⟩
              · have h15 : u 15 = _ := hR 15 (by kernel_rfl)
                clear hR k1 k0 kM
                simp only [h15]
                refine .inl ⟨by kernel_rfl, ?_⟩
                go_simp
                exact ⟨_, rfl, Fr.refl _ _, rfl, trivial⟩
              · have h15 : u 15 = _ := hR 15 (by kernel_rfl)
                clear hR k1 k0 kM
                simp only [h15]
                refine .inl ⟨by kernel_rfl, ?_⟩
                go_simp
                exact ⟨_, rfl, Fr.refl _ _, rfl, trivial⟩
              · have h16 : u 16 = _ := hR 16 (by kernel_rfl)
                have h17 : u 17 = _ := hR 17 (by kernel_rfl)
                have h15 : u 15 = _ := hR 15 (by kernel_rfl)
                clear hR k1 k0 kM
                simp only [h16, h17, h15]
                refine .inl ⟨by kernel_rfl, ?_⟩
                go_simp
                refine (COQ.out _ hf).mono ?_
                rintro e w4 ⟨rfl, f4⟩
                exact ⟨_, rfl, f4.weak, rfl, trivial⟩
              · have h15 : u 15 = _ := hR 15 (by kernel_rfl)
                have h18 : u 18 = _ := hR 18 (by kernel_rfl)
                clear hR k1 k0 kM
                simp only [h15, h18]
                refine .inl ⟨by kernel_rfl, ?_⟩
                go_simp
                exact ⟨_, rfl, Fr.refl _ _, rfl, trivial⟩
              · have h19 : u 19 = _ := hR 19 (by kernel_rfl)
                clear hR k1 k0 kM
                simp only [h19]
                refine .inl ⟨by kernel_rfl, ?_⟩
                go_simp
                exact ⟨_, rfl, Fr.refl _ _, rfl, trivial⟩
              · have h20 : u 20 = _ := hR 20 (by kernel_rfl)
                clear hR k1 k0 kM
                simp only [h20]
                refine .inl ⟨by kernel_rfl, ?_⟩
                go_simp
                exact ⟨_, rfl, Fr.refl _ _, rfl, trivial⟩
              · have h21 : u 21 = _ := hR 21 (by kernel_rfl)
                have h20 : u 20 = _ := hR 20 (by kernel_rfl)
                clear hR k1 k0 kM
                simp only [h21, h20]
                refine .inl ⟨by kernel_rfl, ?_⟩
                go_simp
                refine (CLq.out _ hf).mono ?_
                rintro e w4 ⟨rfl, rfl⟩
                exact ⟨_, rfl, Fr.refl _ _, rfl, trivial⟩
              · have h20 : u 20 = _ := hR 20 (by kernel_rfl)
                clear hR k1 k0 kM
                simp only [h20]
                refine .inl ⟨by kernel_rfl, ?_⟩
                go_simp
                exact ⟨_, rfl, Fr.refl _ _, rfl, trivial⟩
              · have h22 : u 22 = _ := hR 22 (by kernel_rfl)
                have h23 : u 23 = _ := hR 23 (by kernel_rfl)
                have h20 : u 20 = _ := hR 20 (by kernel_rfl)
                clear hR k1 k0 kM
                simp only [h22, h23, h20]
                refine .inl ⟨by kernel_rfl, ?_⟩
                go_simp
                exact ⟨_, rfl, Fr.refl _ _, rfl, trivial⟩
              · have h20 : u 20 = _ := hR 20 (by kernel_rfl)
                have h24 : u 24 = _ := hR 24 (by kernel_rfl)
                clear hR k1 k0 kM
                simp only [h20, h24]
                refine .inl ⟨by kernel_rfl, ?_⟩
                go_simp
                exact ⟨_, rfl, Fr.refl _ _, rfl, trivial⟩
              · have h25 : u 25 = _ := hR 25 (by kernel_rfl)
                clear hR k1 k0 kM
                simp only [h25]
                refine .inl ⟨by kernel_rfl, ?_⟩
                go_simp
                exact ⟨_, rfl, Fr.refl _ _, rfl, trivial⟩
              · have h26 : u 26 = _ := hR 26 (by kernel_rfl)
                clear hR k1 k0 kM
                simp only [h26]
                refine .inl ⟨by kernel_rfl, ?_⟩
                go_simp
                exact ⟨_, rfl, Fr.refl _ _, rfl, trivial⟩
              · have h27 : u 27 = _ := hR 27 (by kernel_rfl)
                have h26 : u 26 = _ := hR 26 (by kernel_rfl)
                clear hR k1 k0 kM
                simp only [h27, h26]
                refine .inl ⟨by kernel_rfl, ?_⟩
                go_simp
                refine (CLp.out _ hf).mono ?_
                rintro e w4 ⟨rfl, rfl⟩
                exact ⟨_, rfl, Fr.refl _ _, rfl, trivial⟩
              · have h26 : u 26 = _ := hR 26 (by kernel_rfl)
                clear hR k1 k0 kM
                simp only [h26]
                refine .inl ⟨by kernel_rfl, ?_⟩
                go_simp
                exact ⟨_, rfl, Fr.refl _ _, rfl, trivial⟩
              · have h29 : u 29 = _ := hR 29 (by kernel_rfl)
                have h26 : u 26 = _ := hR 26 (by kernel_rfl)
                clear hR k1 k0 kM
                simp only [h29, h26]
                refine .inl ⟨by kernel_rfl, ?_⟩
                go_simp
                exact ⟨_, rfl, Fr.refl _ _, rfl, trivial⟩
              · have h28 : u 28 = _ := hR 28 (by kernel_rfl)
                have h30 : u 30 = _ := hR 30 (by kernel_rfl)
                have h26 : u 26 = _ := hR 26 (by kernel_rfl)
                clear hR k1 k0 kM
                simp only [h28, h30, h26]
                refine .inl ⟨by kernel_rfl, ?_⟩
                go_simp
                exact ⟨_, rfl, Fr.refl _ _, rfl, trivial⟩
              · have h26 : u 26 = _ := hR 26 (by kernel_rfl)
                have h31 : u 31 = _ := hR 31 (by kernel_rfl)
                clear hR k1 k0 kM
                simp only [h26, h31]
                refine .inl ⟨by kernel_rfl, ?_⟩
                go_simp
                exact ⟨_, rfl, Fr.refl _ _, rfl, trivial⟩
              · have h32 : u 32 = _ := hR 32 (by kernel_rfl)
                clear hR k1 k0 kM
                simp only [h32]
                refine .inl ⟨by kernel_rfl, ?_⟩
                go_simp
                exact ⟨_, rfl, Fr.refl _ _, rfl, trivial⟩
            · intro u w' hf hR kM
              have h33 : u 33 = _ := hR 33 (by omega)
              clear hR kM
              simp only [List.take_succ_cons, List.take_zero, List.map_cons, List.map_nil, puts, Act.put, List.setIfInBounds_toArray, List.set_cons_zero, List.set_cons_succ, List.drop_succ_cons, List.drop_zero, Nat.reduceAdd, Nat.zero_add, h33]
              have FE := Lib.hid (Fv137.out.trans hf)
              clear hf
              go_wp2
              go_ret
              exact ⟨rfl, FE.out⟩
end Go.Proofs.YtkaghbpdnmigmaaDoor
