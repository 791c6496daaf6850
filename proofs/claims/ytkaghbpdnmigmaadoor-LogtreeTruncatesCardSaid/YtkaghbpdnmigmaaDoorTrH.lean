/- Tree.Include; LogtreeIncludes: the walk (written by genTrH.py). -/
import Derived.Test.YtkaghbpdnmigmaaDoorGwU
import Derived.Test.YtkaghbpdnmigmaaDoorLtM
namespace Go.Proofs.YtkaghbpdnmigmaaDoor
open Go.RowKit

/-- What Include returns. -/
def incV (ds : List (List UInt8)) (i k : Int) : List (List UInt8) × Int := if 1 ≤ k ∧ k ≤ ds.length ∧ 0 ≤ i ∧ i < k then (pathL (ds.take k.toNat) i.toNat, 0) else ([], 2)
def PathR (w : World) (V : List (List UInt8) × Int) (e : Ending) (w' : World) : Prop := ∃ v, e = .returned (.tuple #[v, .int .i64 V.2]) ∧ Grew 24 32 w (.slice none 0 0) w' v V.1.length (V.1.flatMap digC)
theorem PathR.none {w w' : World} {k : Int} (h : Fr Nothing w w') : PathR w ([], k) (.returned (.tuple #[.slice none 0 0, .int .i64 k])) w' := ⟨_, rfl, ⟨⟨rfl, .inl ⟨rfl, rfl⟩⟩, h.weak, fun _ hk => .inl hk⟩⟩

set_option maxRecDepth 100000 in
set_option maxHeartbeats 2000000 in
theorem Include_any (w0 w : World) (p : Nat) (ds : List (List UInt8)) (i k : Int) (hT : TreeN w0 w p ds) (hn : ds.length ≤ 1048576) (hS : ShaTab w) (hi : -9223372036854775808 ≤ i ∧ i ≤ 9223372036854775807) (hk : -9223372036854775808 ≤ k ∧ k ≤ 9223372036854775807) :
    Calls Tryd.prog 30 #[.pointer (some ⟨p, 0, none⟩), .int .i64 i, .int .i64 k] w (PathR w (incV ds i k)) := by
  obtain ⟨A, c, mb, h1, h2, h3⟩ := hT
  obtain ⟨n, hnn⟩ : ∃ n, n = ds.length := ⟨_, rfl⟩
  have C1 : Hid (∀ w', Calls Tryd.prog 52 #[.int .i64 k, .int .i64 1, .int .i64 n] w' (SameW w' (.bool (decide (1 ≤ k ∧ k ≤ n))))) := fun w' => within_any k 1 n w'
  have P0 : w.cell? ⟨p, 0, none⟩ = some (.slice A n c) := by rw [hnn]; exact h1.blk.cell 0
  by_cases hk1 : 1 ≤ k ∧ k ≤ (n : Int)
  · obtain ⟨kn, rfl⟩ : ∃ kn : Nat, k = kn := ⟨k.toNat, by omega⟩
    obtain ⟨k1, hk1'⟩ : ∃ k1 : Nat, (kn : Int) - 1 = (k1 : Int) := ⟨kn - 1, by omega⟩
    have C2 : Hid (∀ w', Calls Tryd.prog 52 #[.int .i64 i, .int .i64 0, .int .i64 k1] w' (SameW w' (.bool (decide (0 ≤ i ∧ i ≤ k1))))) := fun w' => within_any i 0 k1 w'
    rw [decide_eq_true hk1] at C1
    by_cases hi1 : 0 ≤ i ∧ i ≤ (k1 : Int)
    · obtain ⟨iN, rfl⟩ : ∃ iN : Nat, i = iN := ⟨i.toNat, by omega⟩
      rw [decide_eq_true hi1] at C2
      have e : incV ds iN kn = (pathL (ds.take kn) iN, 0) := by
        unfold incV
        rw [if_pos (by omega), Int.toNat_natCast, Int.toNat_natCast]
      rw [e]
      have CI : Hid (∀ w', Fr Nothing w w' → Calls Tryd.prog 60 #[.pointer (some ⟨p, 0, none⟩), .int .i64 iN, .int .i64 0, .int .i64 kn] w' (Owned w' (pathL (ds.take kn) iN).length (pathL (ds.take kn) iN))) := fun w' hf => by
        have h := include_at kn (by omega) w' p A ds.length c mb ds (partC ds.length) 0 20 iN (h1.fr0 hf) (partC_full _) hn (hS.fr0 hf) (by omega) (by omega) (by omega) (Nat.dvd_zero _)
        rw [List.drop_zero] at h
        exact h
      generalize pathL (ds.take kn) iN = PL at *
      have kn4 : kn ≤ 1048576 := by omega
      have iN4 : iN ≤ 1048576 := by omega
      clear e h1 h2 h3 hS hk1 hi1 hnn
      go_enter Tryd.func30, Tryd.ntmps30
      go_wp2_with fail
      refine (C1.out _).mono ?_
      rintro e w' ⟨rfl, rfl⟩
      go_wp2_with fail
      refine (C2.out _).mono ?_
      rintro e w' ⟨rfl, rfl⟩
      go_wp2_with fail
      refine (CI.out _ (Fr.refl _ _)).mono ?_
      rintro e w1 ⟨v, rfl, hG⟩
      have HG := Lib.hid hG
      clear hG
      go_wp2
      go_ret2
      exact ⟨v, rfl, HG.out⟩
    · rw [decide_eq_false hi1] at C2
      have e : incV ds i kn = ([], 2) := by
        unfold incV
        rw [if_neg (by omega)]
      rw [e]
      have kn4 : kn ≤ 1048576 := by omega
      clear e h1 h2 h3 hS hk1 hi1 hnn
      go_enter Tryd.func30, Tryd.ntmps30
      go_wp2_with fail
      refine (C1.out _).mono ?_
      rintro e w' ⟨rfl, rfl⟩
      go_wp2_with fail
      refine (C2.out _).mono ?_
      rintro e w' ⟨rfl, rfl⟩
      go_wp2
      go_ret2
      exact PathR.none (Fr.refl _ _)
  · rw [decide_eq_false hk1] at C1
    have e : incV ds i k = ([], 2) := by
      unfold incV
      rw [if_neg (by omega)]
    rw [e]
    clear e h1 h2 h3 hS hk1 hnn
    go_enter Tryd.func30, Tryd.ntmps30
    go_wp2_with fail
    refine (C1.out _).mono ?_
    rintro e w' ⟨rfl, rfl⟩
    go_wp2
    go_ret2
    exact PathR.none (Fr.refl _ _)

set_option maxRecDepth 100000 in
set_option maxHeartbeats 4000000 in
theorem LogtreeIncludes_any (n0 s0 : Int) (w : World) (hn0 : 0 ≤ n0 ∧ n0 ≤ 255) (hs0 : 0 ≤ s0 ∧ s0 ≤ 255) (hT : ShaTab w) : Calls Tryd.prog 7 #[.int .u8 n0, .int .u8 s0] w (Same' w (.bool true)) := by
  obtain ⟨n, rfl⟩ : ∃ n : Nat, n0 = n := ⟨n0.toNat, by omega⟩
  obtain ⟨s, rfl⟩ : ∃ s : UInt8, s0 = ((s.toNat : Nat) : Int) := ⟨UInt8.ofNat s0.toNat, by rw [UInt8.toNat_ofNat']; omega⟩
  have CK : Hid (∀ w', Fr Nothing w w' → Calls Tryd.prog 15 #[] w' (Same' w' (.bool true))) := fun w' hf => known_any w' (hT.fr0 hf)
  have CL := Lib.hid (fun w' => Leaves_any n s w' (by omega))
  obtain ⟨m, hm⟩ : ∃ m, m = n % 41 := ⟨_, rfl⟩
  have hm41 : m < 41 := by omega
  rw [← hm] at CL
  have hl := leavesL_length m s
  have he := leavesL_each m s
  generalize leavesL m s = ds at *
  have HT := Lib.hid hT
  have HE := Lib.hid he
  have HL := Lib.hid hl
  clear hT hm he
  have lr : (rootE ds).length = 32 := rootE_length m ds hl (by omega) HE.out
  have DR : Hid (Dig (digC (rootE ds)).toArray) := Dig.of lr
  have IDV : Hid ((Tryd.prog.info? 24).map (·.size) = some (digC (rootE ds)).length) := by rw [digC, List.length_map, lr]; exact infoD
  have IRV : Hid ((Tryd.prog.info? 23).map (·.size) = some (digC (rootE ds)).length) := by rw [digC, List.length_map, lr]; exact info32
  have qn : Hid (∀ w : World, (binOp .neq 23 (digV (rootE ds)) (digV (rootE ds))).run Tryd.prog w = .ok (.bool false) w) := fun w => by
    rw [run_neD w _ Tryd.underlying23 _ _ lr lr, decide_eq_true rfl]
    rfl
  have CR : Hid (∀ w' A' c' S', DigL w' S' A' m ds → m ≤ c' → c' ≤ 9223372036854775807 → Calls Tryd.prog 21 #[.slice A' m c'] w' (Same' w' (digV (rootE ds)))) := fun w' A' c' S' hD h1 h2 => rRootE_any m ds A' c' S' w' hD (by omega) h1 h2
  have CG : Hid (∀ w' A' c' S', Fr Nothing w w' → DigL w' S' A' m ds → Calls Tryd.prog 29 #[.slice A' m c'] w' (fun e w'' => e = .returned (.tuple #[.pointer (some ⟨w'.heap.size, 0, none⟩), .bool true]) ∧ TreeN w' w'' w'.heap.size ds)) := fun w' A' c' S' hf hD => grown_any m ds A' c' S' w' hD (by omega) (HT.out.fr0 hf)
  have CI : Hid (∀ w0 w' p k, Fr Nothing w w' → TreeN w0 w' p ds → k < m → Calls Tryd.prog 30 #[.pointer (some ⟨p, 0, none⟩), .int .i64 (k : Nat), .int .i64 m] w' (PathR w' (pathL ds k, 0))) := fun w0 w' p k hf hN hk => by
    have h := Include_any w0 w' p ds k m hN (by omega) (HT.out.fr0 hf) (by omega) (by omega)
    have e : incV ds k m = (pathL ds k, 0) := by
      unfold incV
      rw [if_pos (by omega), Int.toNat_natCast, Int.toNat_natCast, List.take_of_length_le (by omega)]
    rw [e] at h
    exact h
  have CF : Hid (∀ w' k d A' c' S', Fr Nothing w w' → k < m → ds[k]? = some d → DigL w' S' A' (pathL ds k).length (pathL ds k) → Calls Tryd.prog 22 #[digV d, .int .i64 (k : Nat), .int .i64 m, .slice A' (pathL ds k).length c'] w' (Same' w' (.tuple #[digV (rootE ds), .int .i64 0]))) := fun w' k d A' c' S' hf hk hd hD => by
    have hdl : d.length = 32 := HE.out d (List.mem_of_getElem? hd)
    have hpl : (pathL ds k).length ≤ 20 := pathL_depth 20 ds k (by omega) (by omega)
    have h := From_any d hdl k m (by omega) (pathL ds k) _ A' c' S' w' hD (by omega) (HT.out.fr0 hf)
    obtain ⟨e1, e2⟩ := path_from m ds k hl hk (by omega)
    have hg : ds.getD k [] = d := by rw [List.getD_eq_getElem?_getD, hd]; rfl
    have hr : rootE ds = rootL ds := by
      unfold rootE
      rw [if_neg (by rintro rfl; simp at hl; omega)]
    rw [hg] at e1 e2
    rw [e1, e2, ← hr] at h
    exact h
  have HPE : Hid (∀ k, k < m → (pathL ds k).length ≤ 20 ∧ ∀ d ∈ pathL ds k, d.length = 32) := fun k hk => ⟨pathL_depth 20 ds k (by omega) (by omega), pathL_each m ds k hl (by omega) HE.out⟩
  have m4 : m ≤ 1048576 := by omega
  unfold digV at *
  simp only [show ∀ l : List UInt8, l.map bvI = digC l from fun _ => rfl] at *
  generalize digC (rootE ds) = RV at *
  clear lr hl
  go_enter Tryd.func7, Tryd.ntmps7
  go_wp2_with fail
  refine (CK.out _ (Fr.refl _ _)).mono ?_
  rintro e w1 ⟨rfl, f1⟩
  have F1 := Lib.hid f1
  clear f1
  go_wp2_with fail
  refine (CL.out _).mono ?_
  rintro e w2 ⟨v, rfl, hG⟩
  obtain ⟨A, c, rfl, hD, hcc, hcm, f2⟩ := DigL.of_grew32 hG HL.out HE.out
  have D2 := Lib.hid hD
  have F2 := Lib.hid (F1.out.trans f2)
  have HC : Hid (m ≤ c ∧ c ≤ 9223372036854775807) := ⟨hcc, hcm⟩
  clear hG hD hcc hcm f2 F1
  go_wp2_with fail
  refine (CG.out _ _ _ _ F2.out D2.out).mono ?_
  rintro e w3 ⟨rfl, hN⟩
  generalize hp : w2.heap.size = p at *
  have N3 := Lib.hid hN
  have F23 : Hid (Fr Nothing w2 w3) := by obtain ⟨_, _, _, _, h, _⟩ := hN; exact h
  have F3 := Lib.hid (F2.out.trans F23.out)
  have D3 := Lib.hid (D2.out.fr0 F23.out)
  clear hN hp D2 F2 F23
  go_wp2_with fail
  refine (CR.out _ _ _ _ D3.out HC.out.1 HC.out.2).mono ?_
  rintro e w4 ⟨rfl, f4⟩
  have N4 := Lib.hid (N3.out.fr0 f4)
  have F4 := Lib.hid (F3.out.trans f4)
  have D4 := Lib.hid (D3.out.fr0 f4)
  clear f4 N3 F3 D3
  go_wp2_with (refine wpList_allocBlk rfl 23 rfl zero32 zv32 zero32c rfl ?_)
  intro w5 n5
  have Nb := Lib.hid n5
  clear n5
  generalize hg8 : w4.heap.size = g8 at *
  have HG8 := Lib.hid hg8
  clear hg8
  go_wp2_with (refine wpList_storeBlk rfl 23 (.tmp 8) _ rfl g8 RV.toArray rfl rfl _ _ (by have h := Nb.out.blk; rw [HG8.out] at h; exact h) DR.out.infoR DR.out.zero DR.out.one ?_)
  intro w6 b6 f6
  have F46 : Hid (Fr Nothing w4 w6) := Nb.out.fr.then_ f6 (fun i hi e => by have e' : i = g8 := e; have := HG8.out; omega)
  have J6 := Lib.hid b6
  have N6 := Lib.hid (N4.out.fr0 F46.out)
  have F6 := Lib.hid (F4.out.trans F46.out)
  have D6 := Lib.hid (D4.out.fr0 F46.out)
  clear b6 f6 Nb HG8 F46 N4 F4 D4 CK CL CR CG
  go_wp2
  go_loopw [9] (fun i wr => ∃ k : Nat, k ≤ m ∧ i = .int .i64 k ∧ Fr Nothing w6 wr) (fun i _ => m - (intOf i).toNat)
  case atStart => exact ⟨0, Nat.zero_le _, rfl, Fr.refl _ _⟩
  case round =>
    obtain ⟨k, hk, rfl, hf⟩ := hrel
    have HF := Lib.hid hf
    clear hf
    by_cases hlt : k < m
    · obtain ⟨ad, d, rfl, _, hd, hd32, hcell⟩ := (D6.out.fr0 HF.out).at_ hlt
      have HDK := Lib.hid hd
      have HCE := Lib.hid hcell
      have IV : Hid ((Tryd.prog.info? 23).map (·.size) = some (digC d).length) := by rw [digC, List.length_map, hd32]; exact info32
      have hI : (k : Int) < (m : Int) := by omega
      have HLT := Lib.hid hlt
      obtain ⟨pn, hpn⟩ : ∃ pn, pn = (pathL ds k).length := ⟨_, rfl⟩
      have HP2 := Lib.hid (HPE.out k hlt)
      have hp20 : pn ≤ 20 := by rw [hpn]; exact HP2.out.1
      have tp : decide ((20 : Int) < (pn : Int)) = false := decide_eq_false (by omega)
      have CF2 : Hid (∀ w' A' c' S', Fr Nothing w w' → DigL w' S' A' pn (pathL ds k) → Calls Tryd.prog 22 #[.agg (digC d).toArray, .int .i64 (k : Nat), .int .i64 m, .slice A' pn c'] w' (Same' w' (.tuple #[.agg RV.toArray, .int .i64 0]))) := by rw [hpn]; exact fun w' A' c' S' hf hD => CF.out w' k d A' c' S' hf hlt hd hD
      have HPN : Hid ((pathL ds k).length = pn) := hpn.symm
      generalize digC d = DV at *
      clear hd hd32 hcell hpn
      go_wp2_with fail
      refine (CI.out w2 wr p k (F6.out.trans HF.out) (N6.out.fr0 HF.out) HLT.out).mono ?_
      rintro e w7 ⟨v, rfl, hG⟩
      obtain ⟨A2, c2, rfl, hD2, _, _, f7⟩ := DigL.of_grew hG rfl HP2.out.2
      rw [show ((pathL ds k, (0 : Int)).1).length = pn from HPN.out] at *
      have D7 := Lib.hid hD2
      have F7 := Lib.hid (HF.out.trans f7)
      have HCE7 : Hid (∀ j v, DV[j]? = some v → w7.cell? ((ad.add (k * 32)).add j) = some v) := fun j v hv => f7.cellSome (HCE.out j v hv) (fun x => x)
      clear hG hD2 f7 HCE
      go_wp2_with (refine wpList_load_add rfl 23 (.tmp 45) rfl _ rfl DV _ ?hcc Tryd.underlying23 rfl IV.out (Held.go ?hold))
      case hcc => exact HCE7.out
      unfold Held
      go_wp2_with fail
      refine (CF2.out _ _ _ _ (F6.out.trans F7.out) D7.out).mono ?_
      rintro e w8 ⟨rfl, f8⟩
      have F8 := Lib.hid (F7.out.trans f8)
      clear f8 F7 D7 HCE7
      go_wp2_with (refine wpList_allocBlk rfl 24 rfl zero32 zvD zero32c rfl ?_)
      intro w9 n9
      have N9 := Lib.hid n9
      clear n9
      generalize hg12 : w8.heap.size = g12 at *
      have HG12 := Lib.hid hg12
      clear hg12
      go_wp2_with (refine wpList_storeBlk rfl 24 (.tmp 12) _ rfl g12 RV.toArray rfl rfl _ _ (by have h := N9.out.blk; rw [HG12.out] at h; exact h) DR.out.info DR.out.zero DR.out.one ?_)
      intro wa ba fa
      have F8a : Hid (Fr Nothing w8 wa) := N9.out.fr.then_ fa (fun i hi e => by have e' : i = g12 := e; have := HG12.out; omega)
      have FA := Lib.hid (F8.out.trans F8a.out)
      have J12 := Lib.hid ba
      have J8 := Lib.hid (J6.out.fr FA.out (fun x => x))
      clear ba fa N9 HG12 F8 F8a
      go_upto_region 13 with fail
      refine wp_region_sq 16 Nothing [Is (.int .i64 0), Is (.bool false), Is (.bool false), Is (.int .i64 0), Is (.bool false), Is (.bool false), Is (.bool false), Is (.agg RV.toArray), Is (.agg RV.toArray), Is (.bool false), Is (.bool false), Is (.bool false), Is (.slice A2 pn c2), Is (.int .i64 pn), Is (.bool false), Is (.bool false)] [] (fun _ => True) (fun _ _ => false) (by kernel_rfl) (by kernel_rfl) (by kernel_rfl) ⟨Is.stable _, Is.stable _, Is.stable _, Is.stable _, Is.stable _, Is.stable _, Is.stable _, Is.stable _, Is.stable _, Is.stable _, Is.stable _, Is.stable _, Is.stable _, Is.stable _, Is.stable _, Is.stable _, trivial⟩ trivial (fun _ _ _ _ h => h) trivial ?_ ?_
      · refine ⟨fun u w' d hf hR k1 k0 kM => ?_, fun u w' d hf hR k1 k0 kM => ?_, fun u w' d hf hR k1 k0 kM => ?_, fun u w' d hf hR k1 k0 kM => ?_, fun u w' d hf hR k1 k0 kM => ?_, fun u w' d hf hR k1 k0 kM => ?_, fun u w' d hf hR k1 k0 kM => ?_, fun u w' d hf hR k1 k0 kM => ?_, fun u w' d hf hR k1 k0 kM => ?_, fun u w' d hf hR k1 k0 kM => ?_, fun u w' d hf hR k1 k0 kM => ?_, fun u w' d hf hR k1 k0 kM => ?_, fun u w' d hf hR k1 k0 kM => ?_, fun u w' d hf hR k1 k0 kM => ?_, fun u w' d hf hR k1 k0 kM => ?_, fun u w' d hf hR k1 k0 kM => ?_, trivial⟩
        all_goals simp only [List.take_succ_cons, List.take_zero, List.map_cons, List.map_nil, puts, Act.put, List.setIfInBounds_toArray, List.set_cons_zero, List.set_cons_succ, Nat.reduceAdd, Nat.zero_add]
        · clear hR k1 k0 kM
          refine .inl ⟨by kernel_rfl, ?_⟩
          go_simp
          exact ⟨_, rfl, Fr.refl _ _, rfl, trivial⟩
        · have h0 : u 0 = _ := hR 0 (by kernel_rfl)
          clear hR k1 k0 kM
          simp only [h0]
          refine .inl ⟨by kernel_rfl, ?_⟩
          go_simp
          exact ⟨_, rfl, Fr.refl _ _, rfl, trivial⟩
        · have h1 : u 1 = _ := hR 1 (by kernel_rfl)
          clear hR k1 k0 kM
          simp only [h1]
          refine .inl ⟨by kernel_rfl, ?_⟩
          go_simp
          exact ⟨_, rfl, Fr.refl _ _, rfl, trivial⟩
        · have h2 : u 2 = _ := hR 2 (by kernel_rfl)
          clear hR k1 k0 kM
          simp only [h2]
          refine .inl ⟨by kernel_rfl, ?_⟩
          go_simp
          exact ⟨_, rfl, Fr.refl _ _, rfl, trivial⟩
        · have h3 : u 3 = _ := hR 3 (by kernel_rfl)
          have h2 : u 2 = _ := hR 2 (by kernel_rfl)
          clear hR k1 k0 kM
          simp only [h3, h2]
          refine .inl ⟨by kernel_rfl, ?_⟩
          go_simp
          exact ⟨_, rfl, Fr.refl _ _, rfl, trivial⟩
        · have h2 : u 2 = _ := hR 2 (by kernel_rfl)
          have h4 : u 4 = _ := hR 4 (by kernel_rfl)
          clear hR k1 k0 kM
          simp only [h2, h4]
          refine .inl ⟨by kernel_rfl, ?_⟩
          go_simp
          exact ⟨_, rfl, Fr.refl _ _, rfl, trivial⟩
        · have h5 : u 5 = _ := hR 5 (by kernel_rfl)
          clear hR k1 k0 kM
          simp only [h5]
          refine .inl ⟨by kernel_rfl, ?_⟩
          go_simp
          exact ⟨_, rfl, Fr.refl _ _, rfl, trivial⟩
        · have h6 : u 6 = _ := hR 6 (by kernel_rfl)
          clear hR k1 k0 kM
          simp only [h6]
          refine .inl ⟨by kernel_rfl, ?_⟩
          exact wp_load_mid _ _ rfl g12 0 rfl RV _ (range_blk (J12.out.fr hf (fun x => x))) Tryd.underlying24 rfl IDV.out ⟨_, rfl, Fr.refl _ _, rfl, trivial⟩
        · have h6 : u 6 = _ := hR 6 (by kernel_rfl)
          clear hR k1 k0 kM
          simp only [h6]
          refine .inl ⟨by kernel_rfl, ?_⟩
          exact wp_load_mid _ _ rfl g8 0 rfl RV _ (range_blk (J8.out.fr hf (fun x => x))) Tryd.underlying23 rfl IRV.out ⟨_, rfl, Fr.refl _ _, rfl, trivial⟩
        · have h7 : u 7 = _ := hR 7 (by kernel_rfl)
          have h8 : u 8 = _ := hR 8 (by kernel_rfl)
          have h6 : u 6 = _ := hR 6 (by kernel_rfl)
          clear hR k1 k0 kM
          simp only [h7, h8, h6]
          refine .inl ⟨by kernel_rfl, ?_⟩
          exact wp_binAgg _ _ _ _ _ rfl _ _ rfl rfl Tryd.eqGuardType23 _ (qn.out _) ⟨_, rfl, Fr.refl _ _, rfl, trivial⟩
        · have h6 : u 6 = _ := hR 6 (by kernel_rfl)
          have h9 : u 9 = _ := hR 9 (by kernel_rfl)
          clear hR k1 k0 kM
          simp only [h6, h9]
          refine .inl ⟨by kernel_rfl, ?_⟩
          go_simp
          exact ⟨_, rfl, Fr.refl _ _, rfl, trivial⟩
        · have h10 : u 10 = _ := hR 10 (by kernel_rfl)
          clear hR k1 k0 kM
          simp only [h10]
          refine .inl ⟨by kernel_rfl, ?_⟩
          go_simp
          exact ⟨_, rfl, Fr.refl _ _, rfl, trivial⟩
        · have h11 : u 11 = _ := hR 11 (by kernel_rfl)
          clear hR k1 k0 kM
          simp only [h11]
          refine .inl ⟨by kernel_rfl, ?_⟩
          go_simp
          exact ⟨_, rfl, Fr.refl _ _, rfl, trivial⟩
        · have h12 : u 12 = _ := hR 12 (by kernel_rfl)
          have h11 : u 11 = _ := hR 11 (by kernel_rfl)
          clear hR k1 k0 kM
          simp only [h12, h11]
          refine .inl ⟨by kernel_rfl, ?_⟩
          go_simp
          exact ⟨_, rfl, Fr.refl _ _, rfl, trivial⟩
        · have h13 : u 13 = _ := hR 13 (by kernel_rfl)
          have h11 : u 11 = _ := hR 11 (by kernel_rfl)
          clear hR k1 k0 kM
          simp only [h13, h11]
          refine .inl ⟨by kernel_rfl, ?_⟩
          go_simp
          exact ⟨_, rfl, Fr.refl _ _, rfl, trivial⟩
        · have h11 : u 11 = _ := hR 11 (by kernel_rfl)
          have h14 : u 14 = _ := hR 14 (by kernel_rfl)
          clear hR k1 k0 kM
          simp only [h11, h14]
          refine .inl ⟨by kernel_rfl, ?_⟩
          go_simp
          exact ⟨_, rfl, Fr.refl _ _, rfl, trivial⟩
      · intro u w' hf hR kM
        have h15 : u 15 = _ := hR 15 (by omega)
        clear hR kM
        simp only [List.take_succ_cons, List.take_zero, List.map_cons, List.map_nil, puts, Act.put, List.setIfInBounds_toArray, List.set_cons_zero, List.set_cons_succ, List.drop_succ_cons, List.drop_zero, Nat.reduceAdd, Nat.zero_add, h15]
        have FB := Lib.hid (FA.out.trans hf)
        clear hf FA J12 J8
        go_wp2
        go_roundw
        case rel => exact ⟨k + 1, by omega, by go_num, FB.out⟩
        case measure => simp [intOf]; omega
    · obtain rfl : k = m := by omega
      have FE := Lib.hid (F6.out.trans HF.out)
      go_wp2
      go_ret
      exact ⟨rfl, FE.out⟩
end Go.Proofs.YtkaghbpdnmigmaaDoor
