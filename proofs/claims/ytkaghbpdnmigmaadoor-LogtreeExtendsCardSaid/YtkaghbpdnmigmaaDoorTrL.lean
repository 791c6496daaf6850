/- LogtreeExtends: the walk (written by genTrK.py). -/
import Derived.Test.YtkaghbpdnmigmaaDoorTrK
import Derived.Test.YtkaghbpdnmigmaaDoorLtW
namespace Go.Proofs.YtkaghbpdnmigmaaDoor
open Go.RowKit

/-! ### Plainly -/
def otherL (l : List UInt8) : List UInt8 := l.set 3 (l.getD 3 0 ^^^ 1)
def beginL (ds : List (List UInt8)) (k : Nat) : List (List UInt8) := if k = 0 then [] else extL ds k true
theorem otherL_length (l : List UInt8) : (otherL l).length = l.length := by simp [otherL]
theorem otherL_cells (l : List UInt8) : (digC l).toArray.setIfInBounds 3 (.int .u8 (((l.getD 3 0 ^^^ 1).toNat : Nat) : Int)) = (digC (otherL l)).toArray := by
  apply Array.ext'
  simp only [Array.toList_setIfInBounds]
  have h : (digC l).set 3 (bvI (l.getD 3 0 ^^^ 1)) = digC (l.set 3 (l.getD 3 0 ^^^ 1)) := by unfold digC; rw [List.map_set]
  unfold bvI at h
  rw [h]
  rfl
theorem xorOne (a : UInt8) : bits .xor .u8 ((a.toNat : Nat) : Int) 1 = (((a ^^^ 1).toNat : Nat) : Int) := by
  have ha := a.toNat_lt
  have h := u8_xor_nat a.toNat (1 : UInt8).toNat (by omega) (by decide)
  rw [UInt8.toNat_xor]
  exact h
theorem infoU1' : (Tryd.prog.info? 5).map (·.size) = some 1 := by kernel_rfl
theorem buildDz : Tryd.prog.built 24 [] = some (digC zeroL).toArray := by kernel_rfl
theorem beginL_len (m : Nat) (ds : List (List UInt8)) (k : Nat) (hl : ds.length = m) (hk : k ≤ m) (hm : m ≤ 1048576) : (beginL ds k).length ≤ 21 := by
  unfold beginL
  split
  · simp
  · rw [extL_length m ds k true hl (by omega) hk hm]
    exact extLen_depth 20 m k true (by omega) hk hm hm
theorem beginL_each (m : Nat) (ds : List (List UInt8)) (k : Nat) (hl : ds.length = m) (hk : k ≤ m) (hm : m ≤ 1048576) (he : ∀ d ∈ ds, d.length = 32) : ∀ d ∈ beginL ds k, d.length = 32 := by
  unfold beginL
  intro d hd
  split at hd
  · cases hd
  · exact extL_each m ds k true hl (by omega) hk hm he d hd
theorem begin_extT (m : Nat) (ds : List (List UInt8)) (k : Nat) (hl : ds.length = m) (hk : k ≤ m) : extT ds k m = (beginL ds k, 0) := by
  unfold beginL
  split
  · rename_i h
    subst h
    exact extT_zero ds m (by omega)
  · rw [extT_pos ds k m (by omega) (by omega) hk, List.take_of_length_le (by omega)]
theorem rootE_pos (ds : List (List UInt8)) (h : 1 ≤ ds.length) : rootE ds = rootL ds := by
  unfold rootE
  rw [if_neg (by rintro rfl; simp at h)]
theorem begin_zero (old : List UInt8) (m : Nat) (ds : List (List UInt8)) (hm : m ≤ 1048576) : extV old (0 : Nat) m (beginL ds 0) = (old, zeroL, 0) := by
  unfold extV beginL
  rw [if_pos (by omega)]
  simp
theorem begin_ok (old : List UInt8) (m : Nat) (ds : List (List UInt8)) (k : Nat) (hl : ds.length = m) (hk : k ≤ m) (hm : m ≤ 1048576) : (extV old k m (beginL ds k)).2.2 = 0 := by
  by_cases h : k = 0
  · subst h
    rw [begin_zero old m ds hm]
  · unfold extV beginL
    rw [if_pos (by omega), if_neg (by omega), if_neg h, Int.toNat_natCast, Int.toNat_natCast, if_pos (extL_length m ds k true hl (by omega) hk hm)]
theorem begin_old (m : Nat) (ds : List (List UInt8)) (k : Nat) (hl : ds.length = m) (h1 : 1 ≤ k) (hk : k ≤ m) (hm : m ≤ 1048576) : extV (rootE (ds.take k)) k m (beginL ds k) = (rootE (ds.take k), rootE ds, 0) := by
  unfold extV beginL
  rw [if_pos (by omega), if_neg (by omega), if_neg (show ¬ k = 0 by omega), Int.toNat_natCast, Int.toNat_natCast, if_pos (extL_length m ds k true hl (by omega) hk hm)]
  rw [extD_extL m ds k true _ hl h1 hk hm (fun _ => rootE_pos _ (by rw [List.length_take]; omega)), rootE_pos ds (by omega), rootE_pos (ds.take k) (by rw [List.length_take]; omega)]
theorem begin_first (m : Nat) (ds : List (List UInt8)) (k : Nat) (hl : ds.length = m) (hk : k ≤ m) (hm : m ≤ 1048576) : (extV (rootE (ds.take k)) k m (beginL ds k)).1 = rootE (ds.take k) := by
  by_cases h : k = 0
  · subst h
    rw [begin_zero _ m ds hm]
  · rw [begin_old m ds k hl (by omega) hk hm]
theorem OwnS.of32 {w w' : World} {v : Value} {n : Nat} {ds : List (List UInt8)} (h : Grew 23 32 w (.slice none 0 0) w' v n (ds.flatMap digC)) (hl : ds.length = n) (he : ∀ d ∈ ds, d.length = 32) : OwnS n ds v w' := by
  obtain ⟨A, c, rfl, hD, h1, h2, _⟩ := DigL.of_grew32 h hl he
  exact ⟨A, c, rfl, h1, h2, _, hD⟩
theorem wp_buildZ {P : Program} {op : Oper} {a : Act} {w : World} {K : Act → World → Prop} {Q : Exit → Act → World → Prop} (t : TypeId) (ho : op.op = .build t #[]) (cells : Array Value)
    (hf : P.built t [] = some cells) (h : K (a.put op.dst (.agg cells)) w) : op.wp P a w K Q :=
  wp_build t #[] ho (by simp [hf]) (by simpa [hf] using h)

set_option maxRecDepth 100000 in
set_option maxHeartbeats 8000000 in
theorem LogtreeExtends_any (n0 s0 l0 : Int) (w : World) (hn0 : 0 ≤ n0 ∧ n0 ≤ 255) (hs0 : 0 ≤ s0 ∧ s0 ≤ 255) (hl0 : 0 ≤ l0 ∧ l0 ≤ 255) (hT : ShaTab w) : Calls Tryd.prog 9 #[.int .u8 n0, .int .u8 s0, .int .u8 l0] w (Same' w (.bool true)) := by
  obtain ⟨n, rfl⟩ : ∃ n : Nat, n0 = n := ⟨n0.toNat, by omega⟩
  obtain ⟨s, rfl⟩ : ∃ s : UInt8, s0 = ((s.toNat : Nat) : Int) := ⟨UInt8.ofNat s0.toNat, by rw [UInt8.toNat_ofNat']; omega⟩
  obtain ⟨L, rfl⟩ : ∃ L : Nat, l0 = L := ⟨l0.toNat, by omega⟩
  have CK : Hid (∀ w', Fr Nothing w w' → Calls Tryd.prog 15 #[] w' (Same' w' (.bool true))) := fun w' hf => known_any w' (hT.fr0 hf)
  have CL := Lib.hid (fun w' => Leaves_any n s w' (by omega))
  obtain ⟨m, hm⟩ : ∃ m, m = n % 41 := ⟨_, rfl⟩
  have hm41 : m < 41 := by omega
  rw [← hm] at CL
  have hl := leavesL_length m s
  have he := leavesL_each m s
  generalize leavesL m s = ds at *
  have HT := Lib.hid hT
  have HE := Lib.hid he
  have HL := Lib.hid hl
  clear hT hm he
  obtain ⟨m1, hm1⟩ : ∃ m1 : Nat, (m : Int) + 1 = (m1 : Int) := ⟨m + 1, by omega⟩
  obtain ⟨q, hq⟩ : ∃ q : Nat, q = L % m1 := ⟨_, rfl⟩
  have hqm : q ≤ m := by
    have := Nat.mod_lt L (show 0 < m1 by omega)
    omega
  have hmod : (L : Int).tmod (m1 : Int) = (q : Int) := by
    rw [Int.tmod_eq_emod_of_nonneg (by omega), hq]
    exact (Int.natCast_emod _ _).symm
  obtain ⟨k, hk⟩ : ∃ k : Nat, (m : Int) - (q : Int) = (k : Int) := ⟨m - q, by omega⟩
  have hkm : k ≤ m := by omega
  have hn0' : (m1 = 0) = False := eq_false (by omega)
  have hn1' : ((m1 : Int) = 0) = False := eq_false (by omega)
  have m14 : m1 ≤ 41 := by omega
  have L4 : L ≤ 255 := by omega
  have q4 : q ≤ 41 := by omega
  have k4 : k ≤ 41 := by omega
  have b2 : (k : Int) ≤ (m : Int) := by omega
  clear hq hqm
  have hlk : (ds.take k).length = k := by rw [List.length_take, hl]; omega
  have lo : (rootE (ds.take k)).length = 32 := rootE_length k _ hlk (by omega) (fun d hd => HE.out d (List.mem_of_mem_take hd))
  have lx : (otherL (rootE (ds.take k))).length = 32 := by rw [otherL_length, lo]
  have lr : (rootE ds).length = 32 := rootE_length m ds hl (by omega) HE.out
  have hpe := beginL_each m ds k hl hkm (by omega) HE.out
  have hp21 := beginL_len m ds k hl hkm (by omega)
  have v1 := begin_first m ds k hl hkm (by omega)
  have v2 := begin_ok (rootE (ds.take k)) m ds k hl hkm (by omega)
  have v3 := begin_ok (otherL (rootE (ds.take k))) m ds k hl hkm (by omega)
  have z0 := fun h : k = 0 => begin_zero (rootE (ds.take k)) m ds (by omega)
  have hZ : k = 0 → (extV (otherL (rootE (ds.take k))) k m (beginL ds k)).1 = otherL (rootE (ds.take k)) ∧ (extV (rootE (ds.take k)) k m (beginL ds k)).2.1 = zeroL := fun h => by
    rw [h, begin_zero _ m ds (by omega), begin_zero _ m ds (by omega)]
    exact ⟨rfl, rfl⟩
  have hB : ¬ k = 0 → (extV (rootE (ds.take k)) k m (beginL ds k)).2.1 = rootE ds := fun h => by
    rw [begin_old m ds k hl (by omega) hkm (by omega)]
  obtain ⟨l1, l2⟩ := extV_length (rootE (ds.take k)) k m (beginL ds k) lo hpe
  obtain ⟨l3, l4⟩ := extV_length (otherL (rootE (ds.take k))) k m (beginL ds k) lx hpe
  have CX : Hid (∀ w' A' c' S', Fr Nothing w w' → DigL w' S' A' (beginL ds k).length (beginL ds k) → (beginL ds k).length ≤ c' → c' ≤ 9223372036854775807 → Calls Tryd.prog 24 #[digV (rootE (ds.take k)), .int .i64 k, .int .i64 m, .slice A' (beginL ds k).length c'] w' (Same' w' (.tuple #[digV (rootE (ds.take k)), digV (extV (rootE (ds.take k)) k m (beginL ds k)).2.1, .int .i64 0]))) := fun w' A' c' S' hf hD h1 h2 => by
    have h := Extends_any (rootE (ds.take k)) lo k m (by omega) (by omega) (beginL ds k) _ A' c' S' w' hD h1 h2 (HT.out.fr0 hf)
    rw [v1, v2] at h
    exact h
  have CX2 : Hid (∀ w' A' c' S', Fr Nothing w w' → DigL w' S' A' (beginL ds k).length (beginL ds k) → (beginL ds k).length ≤ c' → c' ≤ 9223372036854775807 → Calls Tryd.prog 24 #[digV (otherL (rootE (ds.take k))), .int .i64 k, .int .i64 m, .slice A' (beginL ds k).length c'] w' (Same' w' (.tuple #[digV (extV (otherL (rootE (ds.take k))) k m (beginL ds k)).1, digV (extV (otherL (rootE (ds.take k))) k m (beginL ds k)).2.1, .int .i64 0]))) := fun w' A' c' S' hf hD h1 h2 => by
    have h := Extends_any (otherL (rootE (ds.take k))) lx k m (by omega) (by omega) (beginL ds k) _ A' c' S' w' hD h1 h2 (HT.out.fr0 hf)
    rw [v3] at h
    exact h
  have CY : Hid (∀ w' A' c' S', Fr Nothing w w' → DigL w' S' A' (beginL ds k).length (beginL ds k) → (beginL ds k).length ≤ c' → c' ≤ 9223372036854775807 → Calls Tryd.prog 25 #[digV (otherL (rootE (ds.take k))), .int .i64 k, .int .i64 m, .slice A' (beginL ds k).length c'] w' (Same' w' (.tuple #[digV (extV (otherL (rootE (ds.take k))) k m (beginL ds k)).1, digV (extV (otherL (rootE (ds.take k))) k m (beginL ds k)).2.1, .int .i64 0]))) := fun w' A' c' S' hf hD h1 h2 => by
    have h := rExtends_any (otherL (rootE (ds.take k))) lx k m (by omega) (by omega) (beginL ds k) _ A' c' S' w' hD h1 h2
    rw [v3] at h
    exact h
  have CE : Hid (∀ w0 w' p, Fr Nothing w w' → TreeN w0 w' p ds → Calls Tryd.prog 33 #[.pointer (some ⟨p, 0, none⟩), .int .i64 k, .int .i64 m] w' (PathR w' (beginL ds k, 0))) := fun w0 w' p hf hN => by
    have h := Extend_any w0 w' p ds k m hN (by omega) (HT.out.fr0 hf) (by omega) (by omega)
    rw [begin_extT m ds k hl hkm] at h
    exact h
  have CB : Hid (∀ w' A' c' S', DigL w' S' A' (beginL ds k).length (beginL ds k) → Calls Tryd.prog 35 #[.slice A' (beginL ds k).length c'] w' (Owned32 w' (beginL ds k).length (beginL ds k))) := fun w' A' c' S' hD => back_any _ _ A' c' S' w' hD (by omega)
  have CG : Hid (∀ w' A' c' S', Fr Nothing w w' → DigL w' S' A' m ds → Calls Tryd.prog 29 #[.slice A' m c'] w' (fun e w'' => e = .returned (.tuple #[.pointer (some ⟨w'.heap.size, 0, none⟩), .bool true]) ∧ TreeN w' w'' w'.heap.size ds)) := fun w' A' c' S' hf hD => grown_any m ds A' c' S' w' hD (by omega) (HT.out.fr0 hf)
  have CR : Hid (∀ w' A' c' S', DigL w' S' A' m ds → m ≤ c' → c' ≤ 9223372036854775807 → Calls Tryd.prog 21 #[.slice A' k c'] w' (Same' w' (digV (rootE (ds.take k))))) := fun w' A' c' S' hD h1 h2 => rRootE_any k (ds.take k) A' c' S' w' (hD.take hkm) (by omega) (by omega) h2
  have CR2 : Hid (∀ w' A' c' S', DigL w' S' A' m ds → m ≤ c' → c' ≤ 9223372036854775807 → Calls Tryd.prog 21 #[.slice A' m c'] w' (Same' w' (digV (rootE ds)))) := fun w' A' c' S' hD h1 h2 => rRootE_any m ds A' c' S' w' hD (by omega) h1 h2
  have HPE := Lib.hid hpe
  clear v1 v2 v3 z0 hpe
  generalize beginL ds k = PX at *
  generalize hpn : PX.length = pn at *
  have HPN : Hid (∀ l, l = PX → l.length = pn) := fun l h => by rw [h]; exact hpn
  have tp : decide ((21 : Int) < (pn : Int)) = false := decide_eq_false (by omega)
  clear hpn hl hlk
  generalize (extV (rootE (ds.take k)) k m PX).1 = a1 at *
  generalize (extV (rootE (ds.take k)) k m PX).2.1 = bd at *
  generalize (extV (otherL (rootE (ds.take k))) k m PX).1 = cd at *
  generalize (extV (otherL (rootE (ds.take k))) k m PX).2.1 = dd at *
  have SZ3 : Hid (3 < (digC (rootE (ds.take k))).toArray.size) := by simp [Hid, digC, lo]
  have PUT := Lib.hid (otherL_cells (rootE (ds.take k)))
  have OB : Hid (∀ (w : World) (g : Nat) (t : TypeId), Blk w g t (digC (rootE (ds.take k))).toArray → w.cell? ⟨g, 3, none⟩ = some (.int .u8 ((((rootE (ds.take k)).getD 3 0).toNat : Nat) : Int))) := fun w g t h => by
    rw [h.cell, List.getElem?_toArray, digC, List.getElem?_map, List.getD_eq_getElem?_getD, List.getElem?_eq_getElem (by omega)]
    rfl
  generalize hob : (rootE (ds.take k)).getD 3 0 = ob at *
  have hx := xorOne ob
  clear hob
  generalize otherL (rootE (ds.take k)) = ot at *
  generalize rootE (ds.take k) = od at *
  have DA : Hid (Dig (digC od).toArray) := Dig.of lo
  have DB : Hid (Dig (digC bd).toArray) := Dig.of l2
  have DC : Hid (Dig (digC cd).toArray) := Dig.of l3
  have DD : Hid (Dig (digC dd).toArray) := Dig.of l4
  have HAV : Hid ((Tryd.prog.info? 24).map (·.size) = some (digC od).length) := by rw [digC, List.length_map, lo]; exact infoD
  have HBV : Hid ((Tryd.prog.info? 24).map (·.size) = some (digC bd).length) := by rw [digC, List.length_map, l2]; exact infoD
  have HCV : Hid ((Tryd.prog.info? 24).map (·.size) = some (digC cd).length) := by rw [digC, List.length_map, l3]; exact infoD
  have RAV : Hid ((Tryd.prog.info? 23).map (·.size) = some (digC od).length) := by rw [digC, List.length_map, lo]; exact info32
  have RXV : Hid ((Tryd.prog.info? 23).map (·.size) = some (digC ot).length) := by rw [digC, List.length_map, lx]; exact info32
  have RCV : Hid ((Tryd.prog.info? 23).map (·.size) = some (digC cd).length) := by rw [digC, List.length_map, l3]; exact info32
  have qA : Hid (∀ w : World, (binOp .neq 23 (digV od) (digV od)).run Tryd.prog w = .ok (.bool false) w) := fun w => by
    rw [run_neD w _ Tryd.underlying23 _ _ lo lo, decide_eq_true rfl]; rfl
  have qX : Hid (∀ w : World, (binOp .eql 23 (digV ot) (digV ot)).run Tryd.prog w = .ok (.bool true) w) := fun w => by
    rw [run_eqD w _ Tryd.underlying23 _ _ lx lx, decide_eq_true rfl]
  have qC : Hid (∀ w : World, (binOp .eql 23 (digV cd) (digV cd)).run Tryd.prog w = .ok (.bool true) w) := fun w => by
    rw [run_eqD w _ Tryd.underlying23 _ _ l3 l3, decide_eq_true rfl]
  have qR : Hid (∀ w : World, (binOp .eql 23 (digV (rootE ds)) (digV (rootE ds))).run Tryd.prog w = .ok (.bool true) w) := fun w => by
    rw [run_eqD w _ Tryd.underlying23 _ _ lr lr, decide_eq_true rfl]
  have qZ : Hid (∀ w : World, (binOp .eql 24 (digV zeroL) (digV zeroL)).run Tryd.prog w = .ok (.bool true) w) := fun w => by
    rw [run_eqD w _ Tryd.underlying24 _ _ zeroL_length zeroL_length, decide_eq_true rfl]
  have BZ : Hid (Tryd.prog.built 24 [] = some (digC zeroL).toArray) := buildDz
  have H0 : Hid (k = 0 → digC cd = digC ot ∧ digC bd = digC zeroL) := fun h => by
    obtain ⟨e1, e2⟩ := hZ h
    rw [e1, e2]
    exact ⟨rfl, rfl⟩
  have H1 : Hid (¬ k = 0 → digC bd = digC (rootE ds) ∧ (∀ w' A' c' S', DigL w' S' A' m ds → m ≤ c' → c' ≤ 9223372036854775807 → Calls Tryd.prog 21 #[.slice A' m c'] w' (Same' w' (digV (rootE ds))))) := fun h => ⟨by rw [hB h], CR2.out⟩
  clear CR2 hZ hB lo lx lr l1 l2 l3 l4
  unfold digV at *
  simp only [show ∀ l : List UInt8, l.map bvI = digC l from fun _ => rfl] at *
  generalize digC zeroL = ZV at *
  generalize digC (rootE ds) = RV at *
  generalize digC od = AV at *
  generalize digC ot = XV at *
  generalize digC bd = BV at *
  generalize digC cd = CV at *
  generalize digC dd = DV at *
  go_enter Tryd.func9, Tryd.ntmps9
  go_wp2_with fail
  refine (CK.out _ (Fr.refl _ _)).mono ?_
  rintro e w1 ⟨rfl, f1⟩
  have F1 := Lib.hid f1
  clear f1
  go_wp2_with fail
  refine (CL.out _).mono ?_
  rintro e w2 ⟨v, rfl, hG⟩
  obtain ⟨A, c, rfl, hD, hcc, hcm, f2⟩ := DigL.of_grew32 hG HL.out HE.out
  have D2 := Lib.hid hD
  have F2 := Lib.hid (F1.out.trans f2)
  have HC : Hid (m ≤ c ∧ c ≤ 9223372036854775807) := ⟨hcc, hcm⟩
  have HCk : Hid (k ≤ c) := by simp only [Hid]; omega
  have b1 : (k : Int) ≤ (c : Int) := by omega
  have b4 : (m : Int) ≤ (c : Int) := by omega
  clear hG hD hcc hcm f2 F1
  go_wp2_with fail
  refine (CG.out _ _ _ _ F2.out D2.out).mono ?_
  rintro e w3 ⟨rfl, hN⟩
  generalize hp : w2.heap.size = p at *
  have N3 := Lib.hid hN
  have F23 : Hid (Fr Nothing w2 w3) := by obtain ⟨_, _, _, _, h, _⟩ := hN; exact h
  have F3 := Lib.hid (F2.out.trans F23.out)
  have D3 := Lib.hid (D2.out.fr0 F23.out)
  clear hN hp D2 F2 F23 CK CL CG
  go_wp2_with fail
  refine (CE.out _ _ _ F3.out N3.out).mono ?_
  rintro e w4 ⟨v, rfl, hG⟩
  obtain ⟨A2, c2, rfl, hD2, hc2, hm2, f4⟩ := DigL.of_grew hG rfl HPE.out
  rw [show ((PX, (0 : Int)).1).length = pn from HPN.out _ rfl] at *
  have P4 := Lib.hid hD2
  have HC2 : Hid (pn ≤ c2 ∧ c2 ≤ 9223372036854775807) := ⟨hc2, hm2⟩
  have F4 := Lib.hid (F3.out.trans f4)
  have D4 := Lib.hid (D3.out.fr0 f4)
  clear hG hD2 hc2 hm2 f4 F3 D3 N3 CE
  go_wp2_with fail
  refine (CR.out _ _ _ _ D4.out HC.out.1 HC.out.2).mono ?_
  rintro e w5 ⟨rfl, ff1⟩
  have Fv2 := Lib.hid (F4.out.trans ff1)
  have Dv3 := Lib.hid (D4.out.fr0 ff1)
  have Pv4 := Lib.hid (P4.out.fr0 ff1)
  clear F4 D4 P4 ff1
  go_wp2_with (refine wpList_allocBlk rfl 23 rfl zero32 zv32 zero32c rfl ?_)
  intro wb5_0 nn5_0
  have NB5_0 := Lib.hid nn5_0
  clear nn5_0
  generalize hg5_0 : w5.heap.size = g13 at *
  have HG5_0 := Lib.hid hg5_0
  clear hg5_0
  go_wp2_with (refine wpList_storeBlk rfl 23 (.tmp 13) _ rfl g13 AV.toArray rfl rfl _ _ (by have h := NB5_0.out.blk; rw [HG5_0.out] at h; exact h) DA.out.infoR DA.out.zero DA.out.one ?_)
  intro wb5_1 bb ff
  have BS5_0 := Lib.hid bb
  have FS5_0 := Lib.hid ff
  clear bb ff
  have FF5 : Hid (Fr Nothing w5 wb5_1) := (NB5_0.out.fr.then_ FS5_0.out (fun i hi e => by have e' : i = g13 := e; have q0 := HG5_0.out; have s0 := NB5_0.out.size; omega))
  have Fv6 := Lib.hid (Fv2.out.trans FF5.out)
  have Dv7 := Lib.hid (Dv3.out.fr0 FF5.out)
  have Pv8 := Lib.hid (Pv4.out.fr0 FF5.out)
  clear Fv2 Dv3 Pv4
  have J13v9 := Lib.hid (BS5_0.out)
  clear BS5_0 FS5_0 NB5_0 HG5_0 FF5
  go_wp2_with (refine wpList_loadBlk rfl 23 (.tmp 13) rfl g13 rfl _ AV J13v9.out _ Tryd.underlying23 rfl RAV.out (Held.go ?hold))
  unfold Held
  go_wp2_with fail
  refine (CX.out _ _ _ _ Fv6.out Pv8.out HC2.out.1 HC2.out.2).mono ?_
  rintro e w7 ⟨rfl, ff10⟩
  have Fv11 := Lib.hid (Fv6.out.trans ff10)
  have Dv12 := Lib.hid (Dv7.out.fr0 ff10)
  have Pv13 := Lib.hid (Pv8.out.fr0 ff10)
  have J13v14 := Lib.hid (J13v9.out.fr ff10 (fun x => x))
  clear Fv6 Dv7 Pv8 J13v9 ff10
  go_wp2_with (refine wpList_allocBlk rfl 24 rfl zero32 zvD zero32c rfl ?_)
  intro wb15_0 nn15_0
  have NB15_0 := Lib.hid nn15_0
  clear nn15_0
  generalize hg15_0 : w7.heap.size = g14 at *
  have HG15_0 := Lib.hid hg15_0
  clear hg15_0
  go_wp2_with (refine wpList_allocBlk rfl 24 rfl zero32 zvD zero32c rfl ?_)
  intro wb15_1 nn15_1
  have NB15_1 := Lib.hid nn15_1
  clear nn15_1
  generalize hg15_1 : wb15_0.heap.size = g15 at *
  have HG15_1 := Lib.hid hg15_1
  clear hg15_1
  go_wp2_with (refine wpList_storeBlk rfl 24 (.tmp 14) _ rfl g14 AV.toArray rfl rfl _ _ (by have h := NB15_0.out.blk; rw [HG15_0.out] at h; exact (h.fr NB15_1.out.fr (fun x => x))) DA.out.info DA.out.zero DA.out.one ?_)
  intro wb15_2 bb ff
  have BS15_0 := Lib.hid bb
  have FS15_0 := Lib.hid ff
  clear bb ff
  go_wp2_with (refine wpList_storeBlk rfl 24 (.tmp 15) _ rfl g15 BV.toArray rfl rfl _ _ (by have h := NB15_1.out.blk; rw [HG15_1.out] at h; exact (h.fr FS15_0.out (fun e => by have e' : g15 = g14 := e; have q0 := HG15_0.out; have q1 := HG15_1.out; have s0 := NB15_0.out.size; have s1 := NB15_1.out.size; omega))) DB.out.info DB.out.zero DB.out.one ?_)
  intro wb15_3 bb ff
  have BS15_1 := Lib.hid bb
  have FS15_1 := Lib.hid ff
  clear bb ff
  have FF15 : Hid (Fr Nothing w7 wb15_3) := (((NB15_0.out.fr.trans NB15_1.out.fr).then_ FS15_0.out (fun i hi e => by have e' : i = g14 := e; have q0 := HG15_0.out; have q1 := HG15_1.out; have s0 := NB15_0.out.size; have s1 := NB15_1.out.size; omega)).then_ FS15_1.out (fun i hi e => by have e' : i = g15 := e; have q0 := HG15_0.out; have q1 := HG15_1.out; have s0 := NB15_0.out.size; have s1 := NB15_1.out.size; omega))
  have Fv16 := Lib.hid (Fv11.out.trans FF15.out)
  have Dv17 := Lib.hid (Dv12.out.fr0 FF15.out)
  have Pv18 := Lib.hid (Pv13.out.fr0 FF15.out)
  have J13v19 := Lib.hid (J13v14.out.fr FF15.out (fun x => x))
  clear Fv11 Dv12 Pv13 J13v14
  have J14v20 := Lib.hid ((BS15_0.out.fr FS15_1.out (fun e => by have e' : g14 = g15 := e; have q0 := HG15_0.out; have q1 := HG15_1.out; have s0 := NB15_0.out.size; have s1 := NB15_1.out.size; omega)))
  have J15v21 := Lib.hid (BS15_1.out)
  clear BS15_0 FS15_0 NB15_0 HG15_0 BS15_1 FS15_1 NB15_1 HG15_1 FF15
  go_wp2_with (refine wpList_loadBlk rfl 23 (.tmp 13) rfl g13 rfl _ AV J13v19.out _ Tryd.underlying23 rfl RAV.out (Held.go ?hold2))
  unfold Held
  go_wp2_with (refine wpList_allocBlk rfl 23 rfl zero32 zv32 zero32c rfl ?_)
  intro wb22_0 nn22_0
  have NB22_0 := Lib.hid nn22_0
  clear nn22_0
  generalize hg22_0 : wb15_3.heap.size = g17 at *
  have HG22_0 := Lib.hid hg22_0
  clear hg22_0
  go_wp2_with (refine wpList_storeBlk rfl 23 (.tmp 17) _ rfl g17 AV.toArray rfl rfl _ _ (by have h := NB22_0.out.blk; rw [HG22_0.out] at h; exact h) DA.out.infoR DA.out.zero DA.out.one ?_)
  intro wb22_1 bb ff
  have BS22_0 := Lib.hid bb
  have FS22_0 := Lib.hid ff
  clear bb ff
  have x3 := OB.out _ _ _ BS22_0.out
  go_wp2_with (refine wpList_storeOne rfl 5 (.tmp 71) _ rfl g17 3 _ rfl rfl rfl infoU1' 23 AV.toArray XV.toArray BS22_0.out SZ3.out PUT.out ?_)
  intro wx bx fx
  clear x3
  have BP22 := Lib.hid bx
  have FP22 := Lib.hid fx
  clear bx fx
  have FF22 : Hid (Fr Nothing wb15_3 wx) := ((NB22_0.out.fr.then_ FS22_0.out (fun i hi e => by have e' : i = g17 := e; have q0 := HG22_0.out; have s0 := NB22_0.out.size; omega)).then_ FP22.out (fun i hi e => by have e' : i = g17 := e; have q0 := HG22_0.out; have s0 := NB22_0.out.size; omega))
  have Fv23 := Lib.hid (Fv16.out.trans FF22.out)
  have Dv24 := Lib.hid (Dv17.out.fr0 FF22.out)
  have Pv25 := Lib.hid (Pv18.out.fr0 FF22.out)
  have J13v26 := Lib.hid (J13v19.out.fr FF22.out (fun x => x))
  have J14v27 := Lib.hid (J14v20.out.fr FF22.out (fun x => x))
  have J15v28 := Lib.hid (J15v21.out.fr FF22.out (fun x => x))
  clear Fv16 Dv17 Pv18 J13v19 J14v20 J15v21
  have J17v29 := Lib.hid (BP22.out)
  clear BS22_0 FS22_0 NB22_0 HG22_0 FF22
  clear FP22 BP22
  go_wp2_with (refine wpList_loadBlk rfl 23 (.tmp 17) rfl g17 rfl _ XV J17v29.out _ Tryd.underlying23 rfl RXV.out (Held.go ?hold3))
  unfold Held
  go_wp2_with fail
  refine (CX2.out _ _ _ _ Fv23.out Pv25.out HC2.out.1 HC2.out.2).mono ?_
  rintro e wy ⟨rfl, ff30⟩
  have Fv31 := Lib.hid (Fv23.out.trans ff30)
  have Dv32 := Lib.hid (Dv24.out.fr0 ff30)
  have Pv33 := Lib.hid (Pv25.out.fr0 ff30)
  have J13v34 := Lib.hid (J13v26.out.fr ff30 (fun x => x))
  have J14v35 := Lib.hid (J14v27.out.fr ff30 (fun x => x))
  have J15v36 := Lib.hid (J15v28.out.fr ff30 (fun x => x))
  have J17v37 := Lib.hid (J17v29.out.fr ff30 (fun x => x))
  clear Fv23 Dv24 Pv25 J13v26 J14v27 J15v28 J17v29 ff30
  go_wp2_with (refine wpList_allocBlk rfl 24 rfl zero32 zvD zero32c rfl ?_)
  intro wb38_0 nn38_0
  have NB38_0 := Lib.hid nn38_0
  clear nn38_0
  generalize hg38_0 : wy.heap.size = g18 at *
  have HG38_0 := Lib.hid hg38_0
  clear hg38_0
  go_wp2_with (refine wpList_allocBlk rfl 24 rfl zero32 zvD zero32c rfl ?_)
  intro wb38_1 nn38_1
  have NB38_1 := Lib.hid nn38_1
  clear nn38_1
  generalize hg38_1 : wb38_0.heap.size = g19 at *
  have HG38_1 := Lib.hid hg38_1
  clear hg38_1
  go_wp2_with (refine wpList_storeBlk rfl 24 (.tmp 18) _ rfl g18 CV.toArray rfl rfl _ _ (by have h := NB38_0.out.blk; rw [HG38_0.out] at h; exact (h.fr NB38_1.out.fr (fun x => x))) DC.out.info DC.out.zero DC.out.one ?_)
  intro wb38_2 bb ff
  have BS38_0 := Lib.hid bb
  have FS38_0 := Lib.hid ff
  clear bb ff
  go_wp2_with (refine wpList_storeBlk rfl 24 (.tmp 19) _ rfl g19 DV.toArray rfl rfl _ _ (by have h := NB38_1.out.blk; rw [HG38_1.out] at h; exact (h.fr FS38_0.out (fun e => by have e' : g19 = g18 := e; have q0 := HG38_0.out; have q1 := HG38_1.out; have s0 := NB38_0.out.size; have s1 := NB38_1.out.size; omega))) DD.out.info DD.out.zero DD.out.one ?_)
  intro wb38_3 bb ff
  have BS38_1 := Lib.hid bb
  have FS38_1 := Lib.hid ff
  clear bb ff
  have FF38 : Hid (Fr Nothing wy wb38_3) := (((NB38_0.out.fr.trans NB38_1.out.fr).then_ FS38_0.out (fun i hi e => by have e' : i = g18 := e; have q0 := HG38_0.out; have q1 := HG38_1.out; have s0 := NB38_0.out.size; have s1 := NB38_1.out.size; omega)).then_ FS38_1.out (fun i hi e => by have e' : i = g19 := e; have q0 := HG38_0.out; have q1 := HG38_1.out; have s0 := NB38_0.out.size; have s1 := NB38_1.out.size; omega))
  have Fv39 := Lib.hid (Fv31.out.trans FF38.out)
  have Dv40 := Lib.hid (Dv32.out.fr0 FF38.out)
  have Pv41 := Lib.hid (Pv33.out.fr0 FF38.out)
  have J13v42 := Lib.hid (J13v34.out.fr FF38.out (fun x => x))
  have J14v43 := Lib.hid (J14v35.out.fr FF38.out (fun x => x))
  have J15v44 := Lib.hid (J15v36.out.fr FF38.out (fun x => x))
  have J17v45 := Lib.hid (J17v37.out.fr FF38.out (fun x => x))
  clear Fv31 Dv32 Pv33 J13v34 J14v35 J15v36 J17v37
  have J18v46 := Lib.hid ((BS38_0.out.fr FS38_1.out (fun e => by have e' : g18 = g19 := e; have q0 := HG38_0.out; have q1 := HG38_1.out; have s0 := NB38_0.out.size; have s1 := NB38_1.out.size; omega)))
  have J19v47 := Lib.hid (BS38_1.out)
  clear BS38_0 FS38_0 NB38_0 HG38_0 BS38_1 FS38_1 NB38_1 HG38_1 FF38
  go_upto_region 14 with fail
  refine wp_region_sq 20 Nothing [Is (.int .i64 0), Is (.bool false), Is (.bool false), Is (.int .i64 0), Is (.bool false), Is (.bool false), Is (.bool false), Is (.int .i64 0), Is (.bool false), Is (.bool false), Is (.bool false), Is (.slice A2 pn c2), Is (.int .i64 pn), Is (.bool false), Is (.bool false), Is (.bool false), Is (.agg AV.toArray), Is (.agg AV.toArray), Is (.bool false), Is (.bool false)] [] (fun _ => True) (fun _ _ => false) (by kernel_rfl) (by kernel_rfl) (by kernel_rfl) ⟨Is.stable _, Is.stable _, Is.stable _, Is.stable _, Is.stable _, Is.stable _, Is.stable _, Is.stable _, Is.stable _, Is.stable _, Is.stable _, Is.stable _, Is.stable _, Is.stable _, Is.stable _, Is.stable _, Is.stable _, Is.stable _, Is.stable _, Is.stable _, trivial⟩ trivial (fun _ _ _ _ h => h) trivial ?_ ?_
  · refine ⟨fun u w' d hf hR k1 k0 kM => ?_, fun u w' d hf hR k1 k0 kM => ?_, fun u w' d hf hR k1 k0 kM => ?_, fun u w' d hf hR k1 k0 kM => ?_, fun u w' d hf hR k1 k0 kM => ?_, fun u w' d hf hR k1 k0 kM => ?_, fun u w' d hf hR k1 k0 kM => ?_, fun u w' d hf hR k1 k0 kM => ?_, fun u w' d hf hR k1 k0 kM => ?_, fun u w' d hf hR k1 k0 kM => ?_, fun u w' d hf hR k1 k0 kM => ?_, fun u w' d hf hR k1 k0 kM => ?_, fun u w' d hf hR k1 k0 kM => ?_, fun u w' d hf hR k1 k0 kM => ?_, fun u w' d hf hR k1 k0 kM => ?_, fun u w' d hf hR k1 k0 kM => ?_, fun u w' d hf hR k1 k0 kM => ?_, fun u w' d hf hR k1 k0 kM => ?_, fun u w' d hf hR k1 k0 kM => ?_, fun u w' d hf hR k1 k0 kM => ?_, trivial⟩
    all_goals simp only [List.take_succ_cons, List.take_zero, List.map_cons, List.map_nil, puts, Act.put, List.setIfInBounds_toArray, List.set_cons_zero, List.set_cons_succ, Nat.reduceAdd, Nat.zero_add]
    · clear hR k1 k0 kM
      refine .inl ⟨by kernel_rfl, ?_⟩
      go_simp
      exact ⟨_, rfl, Fr.refl _ _, rfl, trivial⟩
    · have h0 : u 0 = _ := hR 0 (by kernel_rfl)
      clear hR k1 k0 kM
      simp only [h0]
      refine .inl ⟨by kernel_rfl, ?_⟩
      go_simp
      exact ⟨_, rfl, Fr.refl _ _, rfl, trivial⟩
    · have h1 : u 1 = _ := hR 1 (by kernel_rfl)
      clear hR k1 k0 kM
      simp only [h1]
      refine .inl ⟨by kernel_rfl, ?_⟩
      go_simp
      exact ⟨_, rfl, Fr.refl _ _, rfl, trivial⟩
    · have h2 : u 2 = _ := hR 2 (by kernel_rfl)
      clear hR k1 k0 kM
      simp only [h2]
      refine .inl ⟨by kernel_rfl, ?_⟩
      go_simp
      exact ⟨_, rfl, Fr.refl _ _, rfl, trivial⟩
    · have h3 : u 3 = _ := hR 3 (by kernel_rfl)
      have h2 : u 2 = _ := hR 2 (by kernel_rfl)
      clear hR k1 k0 kM
      simp only [h3, h2]
      refine .inl ⟨by kernel_rfl, ?_⟩
      go_simp
      exact ⟨_, rfl, Fr.refl _ _, rfl, trivial⟩
    · have h2 : u 2 = _ := hR 2 (by kernel_rfl)
      have h4 : u 4 = _ := hR 4 (by kernel_rfl)
      clear hR k1 k0 kM
      simp only [h2, h4]
      refine .inl ⟨by kernel_rfl, ?_⟩
      go_simp
      exact ⟨_, rfl, Fr.refl _ _, rfl, trivial⟩
    · have h5 : u 5 = _ := hR 5 (by kernel_rfl)
      clear hR k1 k0 kM
      simp only [h5]
      refine .inl ⟨by kernel_rfl, ?_⟩
      go_simp
      exact ⟨_, rfl, Fr.refl _ _, rfl, trivial⟩
    · have h6 : u 6 = _ := hR 6 (by kernel_rfl)
      clear hR k1 k0 kM
      simp only [h6]
      refine .inl ⟨by kernel_rfl, ?_⟩
      go_simp
      exact ⟨_, rfl, Fr.refl _ _, rfl, trivial⟩
    · have h7 : u 7 = _ := hR 7 (by kernel_rfl)
      have h6 : u 6 = _ := hR 6 (by kernel_rfl)
      clear hR k1 k0 kM
      simp only [h7, h6]
      refine .inl ⟨by kernel_rfl, ?_⟩
      go_simp
      exact ⟨_, rfl, Fr.refl _ _, rfl, trivial⟩
    · have h6 : u 6 = _ := hR 6 (by kernel_rfl)
      have h8 : u 8 = _ := hR 8 (by kernel_rfl)
      clear hR k1 k0 kM
      simp only [h6, h8]
      refine .inl ⟨by kernel_rfl, ?_⟩
      go_simp
      exact ⟨_, rfl, Fr.refl _ _, rfl, trivial⟩
    · have h9 : u 9 = _ := hR 9 (by kernel_rfl)
      clear hR k1 k0 kM
      simp only [h9]
      refine .inl ⟨by kernel_rfl, ?_⟩
      go_simp
      exact ⟨_, rfl, Fr.refl _ _, rfl, trivial⟩
    · have h10 : u 10 = _ := hR 10 (by kernel_rfl)
      clear hR k1 k0 kM
      simp only [h10]
      refine .inl ⟨by kernel_rfl, ?_⟩
      go_simp
      exact ⟨_, rfl, Fr.refl _ _, rfl, trivial⟩
    · have h11 : u 11 = _ := hR 11 (by kernel_rfl)
      have h10 : u 10 = _ := hR 10 (by kernel_rfl)
      clear hR k1 k0 kM
      simp only [h11, h10]
      refine .inl ⟨by kernel_rfl, ?_⟩
      go_simp
      exact ⟨_, rfl, Fr.refl _ _, rfl, trivial⟩
    · have h12 : u 12 = _ := hR 12 (by kernel_rfl)
      have h10 : u 10 = _ := hR 10 (by kernel_rfl)
      clear hR k1 k0 kM
      simp only [h12, h10]
      refine .inl ⟨by kernel_rfl, ?_⟩
      go_simp
      exact ⟨_, rfl, Fr.refl _ _, rfl, trivial⟩
    · have h10 : u 10 = _ := hR 10 (by kernel_rfl)
      have h13 : u 13 = _ := hR 13 (by kernel_rfl)
      clear hR k1 k0 kM
      simp only [h10, h13]
      refine .inl ⟨by kernel_rfl, ?_⟩
      go_simp
      exact ⟨_, rfl, Fr.refl _ _, rfl, trivial⟩
    · have h14 : u 14 = _ := hR 14 (by kernel_rfl)
      clear hR k1 k0 kM
      simp only [h14]
      refine .inl ⟨by kernel_rfl, ?_⟩
      go_simp
      exact ⟨_, rfl, Fr.refl _ _, rfl, trivial⟩
    · have h15 : u 15 = _ := hR 15 (by kernel_rfl)
      clear hR k1 k0 kM
      simp only [h15]
      refine .inl ⟨by kernel_rfl, ?_⟩
      exact wp_load_mid _ _ rfl g14 0 rfl AV _ (range_blk (J14v43.out.fr hf (fun x => x))) Tryd.underlying24 rfl HAV.out ⟨_, rfl, Fr.refl _ _, rfl, trivial⟩
    · have h15 : u 15 = _ := hR 15 (by kernel_rfl)
      clear hR k1 k0 kM
      simp only [h15]
      refine .inl ⟨by kernel_rfl, ?_⟩
      exact wp_load_mid _ _ rfl g13 0 rfl AV _ (range_blk (J13v42.out.fr hf (fun x => x))) Tryd.underlying23 rfl RAV.out ⟨_, rfl, Fr.refl _ _, rfl, trivial⟩
    · have h16 : u 16 = _ := hR 16 (by kernel_rfl)
      have h17 : u 17 = _ := hR 17 (by kernel_rfl)
      have h15 : u 15 = _ := hR 15 (by kernel_rfl)
      clear hR k1 k0 kM
      simp only [h16, h17, h15]
      refine .inl ⟨by kernel_rfl, ?_⟩
      exact wp_binAgg _ _ _ _ _ rfl _ _ rfl rfl Tryd.eqGuardType23 _ (qA.out _) ⟨_, rfl, Fr.refl _ _, rfl, trivial⟩
    · have h15 : u 15 = _ := hR 15 (by kernel_rfl)
      have h18 : u 18 = _ := hR 18 (by kernel_rfl)
      clear hR k1 k0 kM
      simp only [h15, h18]
      refine .inl ⟨by kernel_rfl, ?_⟩
      go_simp
      exact ⟨_, rfl, Fr.refl _ _, rfl, trivial⟩
  · intro u w' hf hR kM
    have h19 : u 19 = _ := hR 19 (by omega)
    clear hR kM
    clear J14v43 J13v42
    have Fv48 := Lib.hid (Fv39.out.trans hf)
    have Dv49 := Lib.hid (Dv40.out.fr0 hf)
    have Pv50 := Lib.hid (Pv41.out.fr0 hf)
    have J15v51 := Lib.hid (J15v44.out.fr hf (fun x => x))
    have J17v52 := Lib.hid (J17v45.out.fr hf (fun x => x))
    have J18v53 := Lib.hid (J18v46.out.fr hf (fun x => x))
    have J19v54 := Lib.hid (J19v47.out.fr hf (fun x => x))
    clear Fv39 Dv40 Pv41 J15v44 J17v45 J18v46 J19v47 hf
    simp only [List.take_succ_cons, List.take_zero, List.map_cons, List.map_nil, puts, Act.put, List.setIfInBounds_toArray, List.set_cons_zero, List.set_cons_succ, List.drop_succ_cons, List.drop_zero, Nat.reduceAdd, Nat.zero_add, h19]
    by_cases h0 : k = 0
    · obtain ⟨e1, e2⟩ := H0.out h0
      obtain rfl := e1
      obtain rfl := e2
      obtain rfl := h0
      go_upto_region 17 with fail
      refine wp_region_sq 9 Nothing [Is (.agg CV.toArray), Is (.agg CV.toArray), Is (.bool true), Is (.bool true), Is (.agg BV.toArray), Is (.agg BV.toArray), Is (.bool true), Is (.bool true), Is (.bool true)] [] (fun _ => True) (fun _ _ => false) (by kernel_rfl) (by kernel_rfl) (by kernel_rfl) ⟨Is.stable _, Is.stable _, Is.stable _, Is.stable _, Is.stable _, Is.stable _, Is.stable _, Is.stable _, Is.stable _, trivial⟩ trivial (fun _ _ _ _ h => h) trivial ?_ ?_
      · refine ⟨fun u w' d hf hR k1 k0 kM => ?_, fun u w' d hf hR k1 k0 kM => ?_, fun u w' d hf hR k1 k0 kM => ?_, fun u w' d hf hR k1 k0 kM => ?_, fun u w' d hf hR k1 k0 kM => ?_, fun u w' d hf hR k1 k0 kM => ?_, fun u w' d hf hR k1 k0 kM => ?_, fun u w' d hf hR k1 k0 kM => ?_, fun u w' d hf hR k1 k0 kM => ?_, trivial⟩
        all_goals simp only [List.take_succ_cons, List.take_zero, List.map_cons, List.map_nil, puts, Act.put, List.setIfInBounds_toArray, List.set_cons_zero, List.set_cons_succ, Nat.reduceAdd, Nat.zero_add]
        · clear hR k1 k0 kM
          refine .inl ⟨by kernel_rfl, ?_⟩
          exact wp_load_mid _ _ rfl g18 0 rfl CV _ (range_blk (J18v53.out.fr hf (fun x => x))) Tryd.underlying24 rfl HCV.out ⟨_, rfl, Fr.refl _ _, rfl, trivial⟩
        · clear hR k1 k0 kM
          refine .inl ⟨by kernel_rfl, ?_⟩
          exact wp_load_mid _ _ rfl g17 0 rfl CV _ (range_blk (J17v52.out.fr hf (fun x => x))) Tryd.underlying23 rfl RXV.out ⟨_, rfl, Fr.refl _ _, rfl, trivial⟩
        · have h0 : u 0 = _ := hR 0 (by kernel_rfl)
          have h1 : u 1 = _ := hR 1 (by kernel_rfl)
          clear hR k1 k0 kM
          simp only [h0, h1]
          refine .inl ⟨by kernel_rfl, ?_⟩
          exact wp_binAgg _ _ _ _ _ rfl _ _ rfl rfl Tryd.eqGuardType23 _ (qX.out _) ⟨_, rfl, Fr.refl _ _, rfl, trivial⟩
        · have h2 : u 2 = _ := hR 2 (by kernel_rfl)
          clear hR k1 k0 kM
          simp only [h2]
          refine .inl ⟨by kernel_rfl, ?_⟩
          go_simp
          exact ⟨_, rfl, Fr.refl _ _, rfl, trivial⟩
        · have h3 : u 3 = _ := hR 3 (by kernel_rfl)
          clear hR k1 k0 kM
          simp only [h3]
          refine .inl ⟨by kernel_rfl, ?_⟩
          exact wp_load_mid _ _ rfl g15 0 rfl BV _ (range_blk (J15v51.out.fr hf (fun x => x))) Tryd.underlying24 rfl HBV.out ⟨_, rfl, Fr.refl _ _, rfl, trivial⟩
        · have h3 : u 3 = _ := hR 3 (by kernel_rfl)
          clear hR k1 k0 kM
          simp only [h3]
          refine .inl ⟨by kernel_rfl, ?_⟩
          exact wp_buildZ 24 rfl BV.toArray BZ.out ⟨_, rfl, Fr.refl _ _, rfl, trivial⟩
        · have h4 : u 4 = _ := hR 4 (by kernel_rfl)
          have h5 : u 5 = _ := hR 5 (by kernel_rfl)
          have h3 : u 3 = _ := hR 3 (by kernel_rfl)
          clear hR k1 k0 kM
          simp only [h4, h5, h3]
          refine .inl ⟨by kernel_rfl, ?_⟩
          exact wp_binAgg _ _ _ _ _ rfl _ _ rfl rfl Tryd.eqGuardType24 _ (qZ.out _) ⟨_, rfl, Fr.refl _ _, rfl, trivial⟩
        · have h3 : u 3 = _ := hR 3 (by kernel_rfl)
          have h6 : u 6 = _ := hR 6 (by kernel_rfl)
          clear hR k1 k0 kM
          simp only [h3, h6]
          refine .inl ⟨by kernel_rfl, ?_⟩
          go_simp
          exact ⟨_, rfl, Fr.refl _ _, rfl, trivial⟩
        · have h7 : u 7 = _ := hR 7 (by kernel_rfl)
          clear hR k1 k0 kM
          simp only [h7]
          refine .inl ⟨by kernel_rfl, ?_⟩
          go_simp
          exact ⟨_, rfl, Fr.refl _ _, rfl, trivial⟩
      · intro u w' hf hR kM
        have h8 : u 8 = _ := hR 8 (by omega)
        clear hR kM
        simp only [List.take_succ_cons, List.take_zero, List.map_cons, List.map_nil, puts, Act.put, List.setIfInBounds_toArray, List.set_cons_zero, List.set_cons_succ, List.drop_succ_cons, List.drop_zero, Nat.reduceAdd, Nat.zero_add, h8]
        have FE := Lib.hid (Fv48.out.trans hf)
        clear hf
        go_wp2
        go_ret
        exact ⟨rfl, FE.out⟩
    · obtain ⟨e1, HR19⟩ := H1.out h0
      have tz : ((k : Int) == 0) = false := by rw [beq_eq_false_iff_ne]; omega
      have tz2 : ¬ k = 0 := h0
      obtain rfl := e1
      go_upto_region 18 with fail
      refine wp_region_new 15 23 [fun v => v = .agg XV.toArray, fun v => v = .int .i64 k, fun v => v = .slice A m c, fun v => v = .int .i64 m, fun v => v = .slice A2 pn c2, fun _ => True, fun v => v = .tuple #[.agg CV.toArray, .agg DV.toArray, .int .i64 0], fun v => v = .tuple #[.agg CV.toArray, .agg DV.toArray, .int .i64 0], fun v => v = .agg CV.toArray, fun v => v = .agg DV.toArray, fun v => v = .int .i64 0, fun _ => True, fun _ => True, fun _ => True, fun _ => True] [fun _ _ => True, fun _ _ => True, fun _ _ => True, fun _ _ => True, fun _ _ => True, OwnS pn PX, fun _ _ => True, fun _ _ => True, fun _ _ => True, fun _ _ => True, fun _ _ => True, fun _ _ => True, fun _ _ => True, fun _ _ => True, fun _ _ => True] [(11, zero32c), (12, zero32c)] [(13, 11, CV.toArray), (14, 12, DV.toArray)] (by kernel_rfl) (by kernel_rfl) (by kernel_rfl) ⟨fun _ _ _ _ _ h => h, fun _ _ _ _ _ h => h, fun _ _ _ _ _ h => h, fun _ _ _ _ _ h => h, fun _ _ _ _ _ h => h, OwnS.stable, fun _ _ _ _ _ h => h, fun _ _ _ _ _ h => h, fun _ _ _ _ _ h => h, fun _ _ _ _ _ h => h, fun _ _ _ _ _ h => h, fun _ _ _ _ _ h => h, fun _ _ _ _ _ h => h, fun _ _ _ _ _ h => h, fun _ _ _ _ _ h => h, trivial⟩ ?_ ?_
      · refine ⟨fun u w' hf hR hW => ?_, fun u w' hf hR hW => ?_, fun u w' hf hR hW => ?_, fun u w' hf hR hW => ?_, fun u w' hf hR hW => ?_, fun u w' hf hR hW => ?_, fun u w' hf hR hW => ?_, fun u w' hf hR hW => ?_, fun u w' hf hR hW => ?_, fun u w' hf hR hW => ?_, fun u w' hf hR hW => ?_, fun u w' hf hR => ?_, fun u w' hf hR => ?_, fun u w' g hf hR hg hb => ?_, fun u w' g hf hR hg hb => ?_, trivial⟩
        all_goals simp only [List.take_succ_cons, List.take_zero, List.map_cons, List.map_nil, puts, Act.put, List.setIfInBounds_toArray, List.set_cons_zero, List.set_cons_succ, Nat.reduceAdd, Nat.zero_add]
        · clear hR hW
          refine .inl ⟨by kernel_rfl, ?_⟩
          exact wp_load_mid _ _ rfl g17 0 rfl XV _ (range_blk (J17v52.out.fr hf (fun x => x))) Tryd.underlying23 rfl RXV.out ⟨_, rfl, rfl, trivial, Fr.refl _ _⟩
        · clear hR hW
          refine .inl ⟨by kernel_rfl, ?_⟩
          go_simp
          exact ⟨_, rfl, rfl, trivial, Fr.refl _ _⟩
        · clear hR hW
          refine .inl ⟨by kernel_rfl, ?_⟩
          go_simp
          exact ⟨_, rfl, rfl, trivial, Fr.refl _ _⟩
        · have h2 : u 2 = _ := hR 2 (by kernel_rfl)
          clear hR hW
          simp only [h2]
          refine .inl ⟨by kernel_rfl, ?_⟩
          go_simp
          exact ⟨_, rfl, rfl, trivial, Fr.refl _ _⟩
        · clear hR hW
          refine .inl ⟨by kernel_rfl, ?_⟩
          go_simp
          exact ⟨_, rfl, rfl, trivial, Fr.refl _ _⟩
        · have h4 : u 4 = _ := hR 4 (by kernel_rfl)
          clear hR hW
          simp only [h4]
          refine .inl ⟨by kernel_rfl, ?_⟩
          go_simp
          refine (CB.out _ _ _ _ (Pv50.out.fr0 hf)).mono ?_
          rintro e w4 ⟨v, rfl, hG⟩
          exact ⟨_, rfl, trivial, OwnS.of32 hG (HPN.out _ rfl) HPE.out, hG.fr0⟩
        · have h0 : u 0 = _ := hR 0 (by kernel_rfl)
          have h1 : u 1 = _ := hR 1 (by kernel_rfl)
          have h3 : u 3 = _ := hR 3 (by kernel_rfl)
          obtain ⟨A8, c8, hz8, l8, m8, S8, D8⟩ := hW (by kernel_rfl) 5 (by kernel_rfl)
          clear hR hW
          simp only [h0, h1, h3, hz8]
          refine .inl ⟨by kernel_rfl, ?_⟩
          go_simp
          refine (CY.out _ A8 c8 S8 (Fv48.out.trans hf) D8 l8 m8).mono ?_
          rintro e w4 ⟨rfl, f4⟩
          exact ⟨_, rfl, rfl, trivial, f4⟩
        · have h6 : u 6 = _ := hR 6 (by kernel_rfl)
          clear hR hW
          simp only [h6]
          refine .inl ⟨by kernel_rfl, ?_⟩
          go_simp
          exact ⟨_, rfl, rfl, trivial, Fr.refl _ _⟩
        · have h7 : u 7 = _ := hR 7 (by kernel_rfl)
          clear hR hW
          simp only [h7]
          refine .inl ⟨by kernel_rfl, ?_⟩
          go_simp
          exact ⟨_, rfl, rfl, trivial, Fr.refl _ _⟩
        · have h7 : u 7 = _ := hR 7 (by kernel_rfl)
          clear hR hW
          simp only [h7]
          refine .inl ⟨by kernel_rfl, ?_⟩
          go_simp
          exact ⟨_, rfl, rfl, trivial, Fr.refl _ _⟩
        · have h7 : u 7 = _ := hR 7 (by kernel_rfl)
          clear hR hW
          simp only [h7]
          refine .inl ⟨by kernel_rfl, ?_⟩
          go_simp
          exact ⟨_, rfl, rfl, trivial, Fr.refl _ _⟩
        · clear hR
          refine .inl ⟨by kernel_rfl, ?_⟩
          refine wp_allocBlk 23 rfl zero32 zv32 zero32c rfl ?_
          intro w4 n4
          exact ⟨_, rfl, trivial, trivial, rfl, n4⟩
        · clear hR
          refine .inl ⟨by kernel_rfl, ?_⟩
          refine wp_allocBlk 23 rfl zero32 zv32 zero32c rfl ?_
          intro w4 n4
          exact ⟨_, rfl, trivial, trivial, rfl, n4⟩
        · have h8 : u 8 = _ := hR 8 (by kernel_rfl)
          clear hR
          simp only [h8, hg]
          refine .inl ⟨by kernel_rfl, ?_⟩
          obtain ⟨cs, hm, hb⟩ := hb
          obtain rfl : cs = zero32c := by simpa using hm
          refine wp_storeBlk 23 (.tmp 21) (.tmp 120) rfl g CV.toArray rfl rfl _ _ hb DC.out.infoR DC.out.zero DC.out.one ?_
          intro w4 b4 f4
          exact ⟨_, rfl, trivial, b4, f4⟩
        · have h9 : u 9 = _ := hR 9 (by kernel_rfl)
          clear hR
          simp only [h9, hg]
          refine .inl ⟨by kernel_rfl, ?_⟩
          obtain ⟨cs, hm, hb⟩ := hb
          obtain rfl : cs = zero32c := by simpa using hm
          refine wp_storeBlk 23 (.tmp 22) (.tmp 121) rfl g DV.toArray rfl rfl _ _ hb DD.out.infoR DD.out.zero DD.out.one ?_
          intro w4 b4 f4
          exact ⟨_, rfl, trivial, b4, f4⟩
      · intro u w' hf hR hN hA
        have h10 : u 10 = _ := hR 10 (by omega)
        obtain ⟨g21, h11, l21, b21⟩ := hN 11 zero32c (by simp)
        obtain ⟨g22, h12, l22, b22⟩ := hN 12 zero32c (by simp)
        clear J17v52 Pv50
        have Fv55 := Lib.hid (Fv48.out.trans hf)
        have Dv56 := Lib.hid (Dv49.out.fr0 hf)
        have J15v57 := Lib.hid (J15v51.out.fr hf (fun x => x))
        have J18v58 := Lib.hid (J18v53.out.fr hf (fun x => x))
        have J19v59 := Lib.hid (J19v54.out.fr hf (fun x => x))
        clear Fv48 Dv49 J15v51 J18v53 J19v54
        have JB21 : Hid (Blk w' g21 23 CV.toArray) := b21
        clear hR hN hA hf b21 b22 l21 l22
        simp only [List.take_succ_cons, List.take_zero, List.map_cons, List.map_nil, puts, Act.put, List.setIfInBounds_toArray, List.set_cons_zero, List.set_cons_succ, List.drop_succ_cons, List.drop_zero, Nat.reduceAdd, Nat.zero_add, h10, h11, h12]
        go_upto_region 19 with fail
        refine wp_region_st 9 Nothing [Is (.agg BV.toArray), Is (.slice A m c), Is (.agg BV.toArray), Is (.bool true), Is (.bool true), Is (.agg CV.toArray), Is (.agg CV.toArray), Is (.bool true), Is (.bool true)] [] (fun _ => True) (fun _ _ => false) (by kernel_rfl) (by kernel_rfl) (by kernel_rfl) (by kernel_rfl) ⟨Is.stable _, Is.stable _, Is.stable _, Is.stable _, Is.stable _, Is.stable _, Is.stable _, Is.stable _, Is.stable _, trivial⟩ trivial (fun _ _ _ _ h => h) trivial ?_ ?_
        · refine ⟨fun u w' d hf hR k1 k0 kM => ?_, fun u w' d hf hR k1 k0 kM => ?_, fun u w' d hf hR k1 k0 kM => ?_, fun u w' d hf hR k1 k0 kM => ?_, fun u w' d hf hR k1 k0 kM => ?_, fun u w' d hf hR k1 k0 kM => ?_, fun u w' d hf hR k1 k0 kM => ?_, fun u w' d hf hR k1 k0 kM => ?_, fun u w' d hf hR k1 k0 kM => ?_, trivial⟩
          all_goals simp only [List.take_succ_cons, List.take_zero, List.map_cons, List.map_nil, puts, Act.put, List.setIfInBounds_toArray, List.set_cons_zero, List.set_cons_succ, Nat.reduceAdd, Nat.zero_add]
          · clear hR k1 k0 kM
            refine .inl ⟨by kernel_rfl, ?_⟩
            exact wp_load_mid _ _ rfl g15 0 rfl BV _ (range_blk (J15v57.out.fr hf (fun x => x))) Tryd.underlying24 rfl HBV.out ⟨_, rfl, Fr.refl _ _, rfl, trivial⟩
          · clear hR k1 k0 kM
            refine .inl ⟨by kernel_rfl, ?_⟩
            go_simp
            exact ⟨_, rfl, Fr.refl _ _, rfl, trivial⟩
          · have h1 : u 1 = _ := hR 1 (by kernel_rfl)
            clear hR k1 k0 kM
            simp only [h1]
            refine .inl ⟨by kernel_rfl, ?_⟩
            go_simp
            refine (HR19 _ A c _ (Dv56.out.fr0 hf) HC.out.1 HC.out.2).mono ?_
            rintro e w4 ⟨rfl, f4⟩
            exact ⟨_, rfl, f4.weak, rfl, trivial⟩
          · have h0 : u 0 = _ := hR 0 (by kernel_rfl)
            have h2 : u 2 = _ := hR 2 (by kernel_rfl)
            clear hR k1 k0 kM
            simp only [h0, h2]
            refine .inl ⟨by kernel_rfl, ?_⟩
            exact wp_binAgg _ _ _ _ _ rfl _ _ rfl rfl Tryd.eqGuardType23 _ (qR.out _) ⟨_, rfl, Fr.refl _ _, rfl, trivial⟩
          · have h3 : u 3 = _ := hR 3 (by kernel_rfl)
            clear hR k1 k0 kM
            simp only [h3]
            refine .inl ⟨by kernel_rfl, ?_⟩
            go_simp
            exact ⟨_, rfl, Fr.refl _ _, rfl, trivial⟩
          · have h4 : u 4 = _ := hR 4 (by kernel_rfl)
            clear hR k1 k0 kM
            simp only [h4]
            refine .inl ⟨by kernel_rfl, ?_⟩
            exact wp_load_mid _ _ rfl g18 0 rfl CV _ (range_blk (J18v58.out.fr hf (fun x => x))) Tryd.underlying24 rfl HCV.out ⟨_, rfl, Fr.refl _ _, rfl, trivial⟩
          · have h4 : u 4 = _ := hR 4 (by kernel_rfl)
            clear hR k1 k0 kM
            simp only [h4]
            refine .inl ⟨by kernel_rfl, ?_⟩
            exact wp_load_mid _ _ rfl g21 0 rfl CV _ (range_blk (JB21.out.fr hf (fun x => x))) Tryd.underlying23 rfl RCV.out ⟨_, rfl, Fr.refl _ _, rfl, trivial⟩
          · have h5 : u 5 = _ := hR 5 (by kernel_rfl)
            have h6 : u 6 = _ := hR 6 (by kernel_rfl)
            have h4 : u 4 = _ := hR 4 (by kernel_rfl)
            clear hR k1 k0 kM
            simp only [h5, h6, h4]
            refine .inl ⟨by kernel_rfl, ?_⟩
            exact wp_binAgg _ _ _ _ _ rfl _ _ rfl rfl Tryd.eqGuardType23 _ (qC.out _) ⟨_, rfl, Fr.refl _ _, rfl, trivial⟩
          · have h4 : u 4 = _ := hR 4 (by kernel_rfl)
            have h7 : u 7 = _ := hR 7 (by kernel_rfl)
            clear hR k1 k0 kM
            simp only [h4, h7]
            refine .inl ⟨by kernel_rfl, ?_⟩
            go_simp
            exact ⟨_, rfl, Fr.refl _ _, rfl, trivial⟩
        · intro u w' hf hR kM
          have h8 : u 8 = _ := hR 8 (by omega)
          clear hR kM
          simp only [List.take_succ_cons, List.take_zero, List.map_cons, List.map_nil, puts, Act.put, List.setIfInBounds_toArray, List.set_cons_zero, List.set_cons_succ, List.drop_succ_cons, List.drop_zero, Nat.reduceAdd, Nat.zero_add, h8]
          have FE := Lib.hid (Fv55.out.trans hf)
          clear hf
          go_wp2
          go_ret
          exact ⟨rfl, FE.out⟩
end Go.Proofs.YtkaghbpdnmigmaaDoor
