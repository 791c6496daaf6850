/- LogtreeExtendRaw: the walk (written by genW.py). -/
import Derived.Test.YtkaghbpdnmigmaaDoorLtU
import Derived.Test.YtkaghbpdnmigmaaDoorLtV
namespace Go.Proofs.YtkaghbpdnmigmaaDoor
open Go.RowKit

/-- What Extends returns. -/
def extV (old : List UInt8) (m n : Int) (path : List (List UInt8)) : List UInt8 × List UInt8 × Int :=
  if 0 ≤ n ∧ n ≤ 1048576 ∧ 0 ≤ m ∧ m ≤ n then
    (if m = 0 then (if path.length = 0 then (old, zeroL, 0) else (zeroL, zeroL, 35))
     else if path.length = extLen m.toNat n.toNat true then ((extD old m.toNat n.toNat true path).1, (extD old m.toNat n.toNat true path).2, 0) else (zeroL, zeroL, 35))
  else (zeroL, zeroL, 2)
theorem extV_length (old : List UInt8) (m n : Int) (path : List (List UInt8)) (ho : old.length = 32) (he : ∀ d ∈ path, d.length = 32) : (extV old m n path).1.length = 32 ∧ (extV old m n path).2.1.length = 32 := by
  unfold extV
  split
  · rename_i h
    split
    · split
      · exact ⟨ho, zeroL_length⟩
      · exact ⟨zeroL_length, zeroL_length⟩
    · split
      · rename_i hl
        exact extD_length n.toNat old m.toNat true path (by omega) (by omega) (by omega) ho hl he
      · exact ⟨zeroL_length, zeroL_length⟩
  · exact ⟨zeroL_length, zeroL_length⟩
theorem Extends_any (old : List UInt8) (ho : old.length = 32) (m n : Int) (bm : -9223372036854775808 ≤ m ∧ m ≤ 9223372036854775807) (bn : -9223372036854775808 ≤ n ∧ n ≤ 9223372036854775807) (path : List (List UInt8)) (p : Nat) (A : Option Addr) (c : Nat) (S : Nat → Prop) (w : World) (hD : DigL w S A p path) (hc : p ≤ c) (hcap : c ≤ 9223372036854775807) (hT : ShaTab w) :
    Calls Tryd.prog 24 #[digV old, .int .i64 m, .int .i64 n, .slice A p c] w (Same' w (.tuple #[digV (extV old m n path).1, digV (extV old m n path).2.1, .int .i64 (extV old m n path).2.2])) := by
  by_cases h : 0 ≤ n ∧ n ≤ 1048576 ∧ 0 ≤ m ∧ m ≤ n
  · obtain ⟨n', rfl⟩ : ∃ n' : Nat, n = n' := ⟨n.toNat, by omega⟩
    obtain ⟨m', rfl⟩ : ∃ m' : Nat, m = m' := ⟨m.toNat, by omega⟩
    unfold extV
    rw [if_pos h]
    simp only [Int.toNat_natCast]
    by_cases h0 : m' = 0
    · subst h0
      have hz := Extends_zero old ho n' (by omega) p A c w
      rw [if_pos (by rfl)]
      rw [hD.len]
      by_cases hp : p = 0
      · rw [if_pos hp] at hz ⊢
        exact hz
      · rw [if_neg hp] at hz ⊢
        exact hz
    · rw [if_neg (by omega), hD.len]
      by_cases hp : p = extLen m' n' true
      · rw [if_pos hp]
        exact Extends_right old ho m' n' (by omega) (by omega) (by omega) path p A c S w hD hc hcap hp hT
      · rw [if_neg hp]
        exact Extends_wrong old ho m' n' (by omega) (by omega) (by omega) p A c w hp
  · unfold extV
    rw [if_neg h]
    exact Extends_range old ho m n _ w h
theorem rExtends_any (old : List UInt8) (ho : old.length = 32) (m n : Int) (bm : -9223372036854775808 ≤ m ∧ m ≤ 9223372036854775807) (bn : -9223372036854775808 ≤ n ∧ n ≤ 9223372036854775807) (path : List (List UInt8)) (p : Nat) (A : Option Addr) (c : Nat) (S : Nat → Prop) (w : World) (hD : DigL w S A p path) (hc : p ≤ c) (hcap : c ≤ 9223372036854775807) :
    Calls Tryd.prog 25 #[digV old, .int .i64 m, .int .i64 n, .slice A p c] w (Same' w (.tuple #[digV (extV old m n path).1, digV (extV old m n path).2.1, .int .i64 (extV old m n path).2.2])) := by
  by_cases h : 0 ≤ n ∧ n ≤ 1048576 ∧ 0 ≤ m ∧ m ≤ n
  · obtain ⟨n', rfl⟩ : ∃ n' : Nat, n = n' := ⟨n.toNat, by omega⟩
    obtain ⟨m', rfl⟩ : ∃ m' : Nat, m = m' := ⟨m.toNat, by omega⟩
    unfold extV
    rw [if_pos h]
    simp only [Int.toNat_natCast]
    by_cases h0 : m' = 0
    · subst h0
      have hz := rExtends_zero old ho n' (by omega) p A c w
      rw [if_pos (by rfl)]
      rw [hD.len]
      by_cases hp : p = 0
      · rw [if_pos hp] at hz ⊢
        exact hz
      · rw [if_neg hp] at hz ⊢
        exact hz
    · rw [if_neg (by omega), hD.len]
      by_cases hp : p = extLen m' n' true
      · rw [if_pos hp]
        exact rExtends_right old ho m' n' (by omega) (by omega) (by omega) path p A c S w hD hc hcap hp
      · rw [if_neg hp]
        exact rExtends_wrong old ho m' n' (by omega) (by omega) (by omega) p A c w hp
  · unfold extV
    rw [if_neg h]
    exact rExtends_range old ho m n _ w h

/-- A slice of digests of the call's own. -/
def OwnS (n : Nat) (ds : List (List UInt8)) (v : Value) (w : World) : Prop := ∃ A c, v = .slice A n c ∧ n ≤ c ∧ c ≤ 9223372036854775807 ∧ ∃ S, DigL w S A n ds
theorem OwnS.of {w w' : World} {v : Value} {n : Nat} {ds : List (List UInt8)} (h : Grew 24 32 w (.slice none 0 0) w' v n (ds.flatMap digC)) (hl : ds.length = n) (he : ∀ d ∈ ds, d.length = 32) : OwnS n ds v w' := by
  obtain ⟨A, c, rfl, hD, h1, h2, _⟩ := DigL.of_grew h hl he
  exact ⟨A, c, rfl, h1, h2, _, hD⟩
theorem OwnS.stable {w : World} {n : Nat} {ds : List (List UInt8)} : ∀ v w' w'', Fr Nothing w w' → Fr Nothing w' w'' → OwnS n ds v w' → OwnS n ds v w'' := fun _ _ _ _ hf ⟨A, c, h, h1, h2, S, hD⟩ => ⟨A, c, h, h1, h2, S, hD.fr0 hf⟩

theorem claim_cells {w : World} {g : Nat} {t : TypeId} {l : List Value} {a b c : Value} (h : Blk w g t (l ++ [a, b, c]).toArray) (hl : l.length = 32) :
    w.cell? ⟨g, 32, none⟩ = some a ∧ w.cell? ⟨g, 33, none⟩ = some b ∧ w.cell? ⟨g, 34, none⟩ = some c ∧ w.rangeAt g 0 l := by
  refine ⟨?_, ?_, ?_, fun j v hv => ?_⟩
  · rw [h.cell, List.getElem?_toArray, List.getElem?_append_right (by omega), hl]; rfl
  · rw [h.cell, List.getElem?_toArray, List.getElem?_append_right (by omega), hl]; rfl
  · rw [h.cell, List.getElem?_toArray, List.getElem?_append_right (by omega), hl]; rfl
  · have hj := (List.getElem?_eq_some_iff.1 hv).1
    rw [Nat.zero_add, h.cell, List.getElem?_toArray, List.getElem?_append_left hj]
    exact hv

theorem range_add {w : World} {g : Nat} {l : List Value} (h : w.rangeAt g 0 l) : ∀ j v, l[j]? = some v → w.cell? ((⟨g, 0, none⟩ : Addr).add j) = some v := fun j v hv => by
  rw [Addr.add_mid]
  exact h j v hv

set_option maxRecDepth 100000 in
set_option maxHeartbeats 4000000 in
theorem ExtendRaw_any (c : ClaimV) (w : World) (hc : c.good w) (hT : ShaTab w) : Calls Tryd.prog 5 #[c.val] w (Same' w (.bool true)) := by
  obtain ⟨leaf, ix, nn, A, len, cap, path⟩ := c
  obtain ⟨hleaf, hix, hnn, hD, hle, hcap⟩ := hc
  simp only at hleaf hix hnn hD hle hcap
  unfold ClaimV.val
  simp only
  have CK : Hid (∀ w', Fr Nothing w w' → Calls Tryd.prog 15 #[] w' (Same' w' (.bool true))) := fun w' hf => known_any w' (hT.fr0 hf)
  have HL := Lib.hid hD.len
  have HE := Lib.hid hD.each
  have CX : Hid (∀ w' A' c' S', Fr Nothing w w' → DigL w' S' A' len path → len ≤ c' → c' ≤ 9223372036854775807 → Calls Tryd.prog 24 #[digV leaf, .int .i64 ix, .int .i64 nn, .slice A' len c'] w' (Same' w' (.tuple #[digV (extV leaf ix nn path).1, digV (extV leaf ix nn path).2.1, .int .i64 (extV leaf ix nn path).2.2]))) :=
    fun w' A' c' S' hf hD' h1 h2 => Extends_any leaf hleaf ix nn hix hnn path len A' c' S' w' hD' h1 h2 (hT.fr0 hf)
  have CY : Hid (∀ w', Fr Nothing w w' → Calls Tryd.prog 25 #[digV leaf, .int .i64 ix, .int .i64 nn, .slice A len cap] w' (Same' w' (.tuple #[digV (extV leaf ix nn path).1, digV (extV leaf ix nn path).2.1, .int .i64 (extV leaf ix nn path).2.2]))) :=
    fun w' hf => rExtends_any leaf hleaf ix nn hix hnn path len A cap _ w' (hD.fr0 hf) hle hcap
  obtain ⟨la, lb⟩ := extV_length leaf ix nn path hleaf hD.each
  have lL : (digC leaf).length = 32 := by rw [digC, List.length_map, hleaf]
  have CO' : len ≤ 1048576 → Hid (∀ w', Fr Nothing w w' → Calls Tryd.prog 14 #[.slice A len cap] w' (Owned w' len path)) := fun hl w' hf => own_any len path A cap _ w' (hD.fr0 hf) hl
  generalize (extV leaf ix nn path).1 = ra at *
  generalize (extV leaf ix nn path).2.1 = rb at *
  generalize (extV leaf ix nn path).2.2 = E at *
  have DA : Hid (Dig (digC ra).toArray) := Dig.of la
  have DB : Hid (Dig (digC rb).toArray) := Dig.of lb
  have HAV : Hid ((Tryd.prog.info? 24).map (·.size) = some (digC ra).length) := by rw [digC, List.length_map, la]; exact infoD
  have HBV : Hid ((Tryd.prog.info? 24).map (·.size) = some (digC rb).length) := by rw [digC, List.length_map, lb]; exact infoD
  have RAV : Hid ((Tryd.prog.info? 23).map (·.size) = some (digC ra).length) := by rw [digC, List.length_map, la]; exact info32
  have RBV : Hid ((Tryd.prog.info? 23).map (·.size) = some (digC rb).length) := by rw [digC, List.length_map, lb]; exact info32
  have HLV : Hid ((Tryd.prog.info? 23).map (·.size) = some (digC leaf).length) := by rw [lL]; exact info32
  have qa : Hid (∀ w : World, (binOp .eql 23 (digV ra) (digV ra)).run Tryd.prog w = .ok (.bool true) w) := fun w => by
    rw [run_eqD w _ Tryd.underlying23 ra ra la la, decide_eq_true rfl]
  have qb : Hid (∀ w : World, (binOp .eql 23 (digV rb) (digV rb)).run Tryd.prog w = .ok (.bool true) w) := fun w => by
    rw [run_eqD w _ Tryd.underlying23 rb rb lb lb, decide_eq_true rfl]
  have LL := Lib.hid lL
  clear la lb lL hleaf hix hnn hD hT
  unfold digV at *
  simp only [show ∀ l : List UInt8, l.map bvI = digC l from fun _ => rfl] at *
  generalize digC leaf = LV at *
  generalize digC ra = AV at *
  generalize digC rb = BV at *
  go_enter Tryd.func5, Tryd.ntmps5
  go_wp2_with (refine wpList_boxBlk rfl 40 (.tmp 0) rfl _ rfl ?_)
  intro w1 n1
  have B1 : Hid (Blk w1 w.heap.size 40 (LV ++ [Value.int .i64 ix, Value.int .i64 nn, Value.slice A len cap]).toArray) := n1.blk
  have F1 := Lib.hid n1.fr
  clear n1
  generalize w.heap.size = g1 at *
  obtain ⟨x32, x33, x34, _⟩ := claim_cells B1.out LL.out
  by_cases h30 : 30 < len
  · have t1 : decide ((30 : Int) < (len : Int)) = true := decide_eq_true (by omega)
    clear CO'
    go_wp2_with fail
    refine (CK.out _ F1.out).mono ?_
    rintro e w2 ⟨rfl, f2⟩
    have F2 := Lib.hid (F1.out.trans f2)
    clear f2
    go_wp2
    go_ret
    exact ⟨rfl, F2.out⟩
  · have t1 : decide ((30 : Int) < (len : Int)) = false := decide_eq_false (by omega)
    have CO := CO' (by omega)
    have C32 : Hid (∀ w', Fr Nothing w1 w' → w'.cell? ⟨g1, 32, none⟩ = some (.int .i64 ix)) := fun w' hf => hf.cellSome x32 (fun x => x)
    have C33 : Hid (∀ w', Fr Nothing w1 w' → w'.cell? ⟨g1, 33, none⟩ = some (.int .i64 nn)) := fun w' hf => hf.cellSome x33 (fun x => x)
    have C34 : Hid (∀ w', Fr Nothing w1 w' → w'.cell? ⟨g1, 34, none⟩ = some (.slice A len cap)) := fun w' hf => hf.cellSome x34 (fun x => x)
    have RG : Hid (∀ w', Fr Nothing w1 w' → w'.rangeAt g1 0 LV) := fun w' hf => (claim_cells (B1.out.fr hf (fun x => x)) LL.out).2.2.2
    clear CO'
    go_upto_region 3 with fail
    clear x32 x33 x34
    refine wp_region_new 18 24 [fun v => v = .pointer (some ⟨g1, 0, none⟩), fun v => v = .agg LV.toArray, fun v => v = .pointer (some ⟨g1, 32, none⟩), fun v => v = .int .i64 ix, fun v => v = .pointer (some ⟨g1, 33, none⟩), fun v => v = .int .i64 nn, fun v => v = .pointer (some ⟨g1, 34, none⟩), fun v => v = .slice A len cap, fun _ => True, fun v => v = .tuple #[.agg AV.toArray, .agg BV.toArray, .int .i64 E], fun v => v = .tuple #[.agg AV.toArray, .agg BV.toArray, .int .i64 E], fun v => v = .agg AV.toArray, fun v => v = .agg BV.toArray, fun v => v = .int .i64 E, fun _ => True, fun _ => True, fun _ => True, fun _ => True] [fun _ _ => True, fun _ _ => True, fun _ _ => True, fun _ _ => True, fun _ _ => True, fun _ _ => True, fun _ _ => True, fun _ _ => True, OwnS len path, fun _ _ => True, fun _ _ => True, fun _ _ => True, fun _ _ => True, fun _ _ => True, fun _ _ => True, fun _ _ => True, fun _ _ => True, fun _ _ => True] [(14, zero32c), (15, zero32c)] [(16, 14, AV.toArray), (17, 15, BV.toArray)] (by kernel_rfl) (by kernel_rfl) (by kernel_rfl) ⟨fun _ _ _ _ _ h => h, fun _ _ _ _ _ h => h, fun _ _ _ _ _ h => h, fun _ _ _ _ _ h => h, fun _ _ _ _ _ h => h, fun _ _ _ _ _ h => h, fun _ _ _ _ _ h => h, fun _ _ _ _ _ h => h, OwnS.stable, fun _ _ _ _ _ h => h, fun _ _ _ _ _ h => h, fun _ _ _ _ _ h => h, fun _ _ _ _ _ h => h, fun _ _ _ _ _ h => h, fun _ _ _ _ _ h => h, fun _ _ _ _ _ h => h, fun _ _ _ _ _ h => h, fun _ _ _ _ _ h => h, trivial⟩ ?_ ?_
    · refine ⟨fun u w' hf hR hW => ?_, fun u w' hf hR hW => ?_, fun u w' hf hR hW => ?_, fun u w' hf hR hW => ?_, fun u w' hf hR hW => ?_, fun u w' hf hR hW => ?_, fun u w' hf hR hW => ?_, fun u w' hf hR hW => ?_, fun u w' hf hR hW => ?_, fun u w' hf hR hW => ?_, fun u w' hf hR hW => ?_, fun u w' hf hR hW => ?_, fun u w' hf hR hW => ?_, fun u w' hf hR hW => ?_, fun u w' hf hR => ?_, fun u w' hf hR => ?_, fun u w' g hf hR hg hb => ?_, fun u w' g hf hR hg hb => ?_, trivial⟩
      all_goals simp only [List.take_succ_cons, List.take_zero, List.map_cons, List.map_nil, puts, Act.put, List.setIfInBounds_toArray, List.set_cons_zero, List.set_cons_succ, Nat.reduceAdd, Nat.zero_add]
      · clear hR hW
        refine .inl ⟨by kernel_rfl, ?_⟩
        go_simp
        exact ⟨_, rfl, rfl, trivial, Fr.refl _ _⟩
      · have h0 : u 0 = _ := hR 0 (by kernel_rfl)
        clear hR hW
        simp only [h0]
        refine .inl ⟨by kernel_rfl, ?_⟩
        exact wp_load_mid _ _ rfl g1 0 rfl LV _ (RG.out _ hf) Tryd.underlying23 rfl HLV.out ⟨_, rfl, rfl, trivial, Fr.refl _ _⟩
      · clear hR hW
        refine .inl ⟨by kernel_rfl, ?_⟩
        go_simp
        exact ⟨_, rfl, rfl, trivial, Fr.refl _ _⟩
      · have h2 : u 2 = _ := hR 2 (by kernel_rfl)
        clear hR hW
        simp only [h2]
        refine .inl ⟨by kernel_rfl, ?_⟩
        have hc := C32.out _ hf
        go_simp
        exact ⟨_, rfl, rfl, trivial, Fr.refl _ _⟩
      · clear hR hW
        refine .inl ⟨by kernel_rfl, ?_⟩
        go_simp
        exact ⟨_, rfl, rfl, trivial, Fr.refl _ _⟩
      · have h4 : u 4 = _ := hR 4 (by kernel_rfl)
        clear hR hW
        simp only [h4]
        refine .inl ⟨by kernel_rfl, ?_⟩
        have hc := C33.out _ hf
        go_simp
        exact ⟨_, rfl, rfl, trivial, Fr.refl _ _⟩
      · clear hR hW
        refine .inl ⟨by kernel_rfl, ?_⟩
        go_simp
        exact ⟨_, rfl, rfl, trivial, Fr.refl _ _⟩
      · have h6 : u 6 = _ := hR 6 (by kernel_rfl)
        clear hR hW
        simp only [h6]
        refine .inl ⟨by kernel_rfl, ?_⟩
        have hc := C34.out _ hf
        go_simp
        exact ⟨_, rfl, rfl, trivial, Fr.refl _ _⟩
      · have h7 : u 7 = _ := hR 7 (by kernel_rfl)
        clear hR hW
        simp only [h7]
        refine .inl ⟨by kernel_rfl, ?_⟩
        go_simp
        refine (CO.out _ (F1.out.trans hf)).mono ?_
        rintro e w4 ⟨v, rfl, hG⟩
        exact ⟨_, rfl, trivial, OwnS.of hG HL.out HE.out, hG.fr0⟩
      · have h1 : u 1 = _ := hR 1 (by kernel_rfl)
        have h3 : u 3 = _ := hR 3 (by kernel_rfl)
        have h5 : u 5 = _ := hR 5 (by kernel_rfl)
        obtain ⟨A8, c8, h8, l8, m8, S8, D8⟩ := hW (by kernel_rfl) 8 (by kernel_rfl)
        clear hR hW
        simp only [h1, h3, h5, h8]
        refine .inl ⟨by kernel_rfl, ?_⟩
        go_simp
        refine (CX.out _ A8 c8 S8 (F1.out.trans hf) D8 l8 m8).mono ?_
        rintro e w4 ⟨rfl, f4⟩
        exact ⟨_, rfl, rfl, trivial, f4⟩
      · have h9 : u 9 = _ := hR 9 (by kernel_rfl)
        clear hR hW
        simp only [h9]
        refine .inl ⟨by kernel_rfl, ?_⟩
        go_simp
        exact ⟨_, rfl, rfl, trivial, Fr.refl _ _⟩
      · have h10 : u 10 = _ := hR 10 (by kernel_rfl)
        clear hR hW
        simp only [h10]
        refine .inl ⟨by kernel_rfl, ?_⟩
        go_simp
        exact ⟨_, rfl, rfl, trivial, Fr.refl _ _⟩
      · have h10 : u 10 = _ := hR 10 (by kernel_rfl)
        clear hR hW
        simp only [h10]
        refine .inl ⟨by kernel_rfl, ?_⟩
        go_simp
        exact ⟨_, rfl, rfl, trivial, Fr.refl _ _⟩
      · have h10 : u 10 = _ := hR 10 (by kernel_rfl)
        clear hR hW
        simp only [h10]
        refine .inl ⟨by kernel_rfl, ?_⟩
        go_simp
        exact ⟨_, rfl, rfl, trivial, Fr.refl _ _⟩
      · clear hR
        refine .inl ⟨by kernel_rfl, ?_⟩
        refine wp_allocBlk 24 rfl zero32 zvD zero32c rfl ?_
        intro w4 n4
        exact ⟨_, rfl, trivial, trivial, rfl, n4⟩
      · clear hR
        refine .inl ⟨by kernel_rfl, ?_⟩
        refine wp_allocBlk 24 rfl zero32 zvD zero32c rfl ?_
        intro w4 n4
        exact ⟨_, rfl, trivial, trivial, rfl, n4⟩
      · have h11 : u 11 = _ := hR 11 (by kernel_rfl)
        clear hR
        simp only [h11, hg]
        refine .inl ⟨by kernel_rfl, ?_⟩
        obtain ⟨cs, hm, hb⟩ := hb
        obtain rfl : cs = zero32c := by simpa using hm
        refine wp_storeBlk 24 (.tmp 3) (.tmp 25) rfl g AV.toArray rfl rfl _ _ hb DA.out.info DA.out.zero DA.out.one ?_
        intro w4 b4 f4
        exact ⟨_, rfl, trivial, b4, f4⟩
      · have h12 : u 12 = _ := hR 12 (by kernel_rfl)
        clear hR
        simp only [h12, hg]
        refine .inl ⟨by kernel_rfl, ?_⟩
        obtain ⟨cs, hm, hb⟩ := hb
        obtain rfl : cs = zero32c := by simpa using hm
        refine wp_storeBlk 24 (.tmp 4) (.tmp 26) rfl g BV.toArray rfl rfl _ _ hb DB.out.info DB.out.zero DB.out.one ?_
        intro w4 b4 f4
        exact ⟨_, rfl, trivial, b4, f4⟩
    · intro u w' hf hR hN hA
      have h13 : u 13 = _ := hR 13 (by omega)
      obtain ⟨g3, h14, l3, b3⟩ := hN 14 zero32c (by simp)
      obtain ⟨g4, h15, l4, b4⟩ := hN 15 zero32c (by simp)
      have B3' : Hid (Blk w' g3 24 AV.toArray) := b3
      have B4' : Hid (Blk w' g4 24 BV.toArray) := b4
      have F3 := Lib.hid hf
      clear hR hN hA hf b3 b4 l3 l4 CO CX
      simp only [List.take_succ_cons, List.take_zero, List.map_cons, List.map_nil, puts, Act.put, List.setIfInBounds_toArray, List.set_cons_zero, List.set_cons_succ, List.drop_succ_cons, List.drop_zero, Nat.reduceAdd, Nat.zero_add, h13, h14, h15]
      have x32 : w'.cell? ⟨g1, 32, none⟩ = some (.int .i64 ix) := C32.out _ F3.out
      have x33 : w'.cell? ⟨g1, 33, none⟩ = some (.int .i64 nn) := C33.out _ F3.out
      have x34 : w'.cell? ⟨g1, 34, none⟩ = some (.slice A len cap) := C34.out _ F3.out
      go_wp2_with (refine wpList_load_add rfl 23 (.tmp 29) rfl ⟨g1, 0, none⟩ rfl LV _ (range_add (RG.out _ F3.out)) Tryd.underlying23 rfl HLV.out ?_)
      refine (CY.out _ (F1.out.trans F3.out)).mono ?_
      rintro e w4 ⟨rfl, f4⟩
      have F4 := Lib.hid (F3.out.trans f4)
      have B34 := Lib.hid (B3'.out.fr f4 (fun x => x))
      have B44 := Lib.hid (B4'.out.fr f4 (fun x => x))
      clear f4 F3 B3' B4' CY x32 x33 x34
      go_wp2_with (refine wpList_allocBlk rfl 23 rfl zero32 zv32 zero32c rfl ?_)
      intro w5 n5
      have B65 := Lib.hid n5.blk
      have F5 := Lib.hid (F4.out.trans n5.fr)
      have B35 := Lib.hid (B34.out.fr n5.fr (fun x => x))
      have B45 := Lib.hid (B44.out.fr n5.fr (fun x => x))
      have z5 : Hid (g3 < w4.heap.size ∧ g4 < w4.heap.size ∧ w1.heap.size ≤ w4.heap.size) := ⟨B34.out.lt, B44.out.lt, F4.out.size⟩
      clear n5 F4 B34 B44
      generalize w4.heap.size = g6 at *
      go_wp2_with (refine wpList_allocBlk rfl 23 rfl zero32 zv32 zero32c rfl ?_)
      intro w6 n6
      have B76 := Lib.hid n6.blk
      have B66 := Lib.hid (B65.out.fr n6.fr (fun x => x))
      have F6 := Lib.hid (F5.out.trans n6.fr)
      have B36 := Lib.hid (B35.out.fr n6.fr (fun x => x))
      have B46 := Lib.hid (B45.out.fr n6.fr (fun x => x))
      have z6 : Hid (g6 < w5.heap.size) := B65.out.lt
      clear n6 F5 B35 B45 B65
      generalize w5.heap.size = g7 at *
      go_wp2_with (refine wpList_storeBlk rfl 23 (.tmp 6) _ rfl g6 AV.toArray rfl rfl _ _ B66.out DA.out.infoR DA.out.zero DA.out.one ?_)
      intro w7 b7 f7
      have B67 := Lib.hid b7
      have B77 := Lib.hid (B76.out.fr f7 (fun e => by have e' : g7 = g6 := e; have := z6.out; omega))
      have B37 := Lib.hid (B36.out.fr f7 (fun e => by have e' : g3 = g6 := e; have := z5.out; omega))
      have B47 := Lib.hid (B46.out.fr f7 (fun e => by have e' : g4 = g6 := e; have := z5.out; omega))
      have F7 := Lib.hid (F6.out.then_ f7 (fun i hi e => by have e' : i = g6 := e; have := z5.out; omega))
      clear b7 f7 F6 B36 B46 B66 B76
      go_wp2_with (refine wpList_storeBlk rfl 23 (.tmp 7) _ rfl g7 BV.toArray rfl rfl _ _ B77.out DB.out.infoR DB.out.zero DB.out.one ?_)
      intro w8 b8 f8
      have B7 := Lib.hid b8
      have B6 := Lib.hid (B67.out.fr f8 (fun e => by have e' : g6 = g7 := e; have := z6.out; omega))
      have B3 := Lib.hid (B37.out.fr f8 (fun e => by have e' : g3 = g7 := e; have := z5.out; have := z6.out; omega))
      have B4 := Lib.hid (B47.out.fr f8 (fun e => by have e' : g4 = g7 := e; have := z5.out; have := z6.out; omega))
      have F8 := Lib.hid (F7.out.then_ f8 (fun i hi e => by have e' : i = g7 := e; have := z5.out; have := z6.out; omega))
      have F9 := Lib.hid (F1.out.trans F8.out)
      clear b8 f8 F7 B37 B47 B67 B77 z5 z6 F8 F1
      go_upto_region 5 with fail
      refine wp_region_sq 16 Nothing [Is (.bool true), Is (.bool true), Is (.int .i64 E), Is (.int .i64 E), Is (.bool true), Is (.bool true), Is (.bool true), Is (.agg AV.toArray), Is (.agg AV.toArray), Is (.bool true), Is (.bool true), Is (.bool true), Is (.agg BV.toArray), Is (.agg BV.toArray), Is (.bool true), Is (.bool true)] [] (fun _ => True) (fun _ _ => false) (by kernel_rfl) (by kernel_rfl) (by kernel_rfl) ⟨Is.stable _, Is.stable _, Is.stable _, Is.stable _, Is.stable _, Is.stable _, Is.stable _, Is.stable _, Is.stable _, Is.stable _, Is.stable _, Is.stable _, Is.stable _, Is.stable _, Is.stable _, Is.stable _, trivial⟩ trivial (fun _ _ _ _ h => h) trivial ?_ ?_
      · refine ⟨fun u w' d hf hR k1 k0 kM => ?_, fun u w' d hf hR k1 k0 kM => ?_, fun u w' d hf hR k1 k0 kM => ?_, fun u w' d hf hR k1 k0 kM => ?_, fun u w' d hf hR k1 k0 kM => ?_, fun u w' d hf hR k1 k0 kM => ?_, fun u w' d hf hR k1 k0 kM => ?_, fun u w' d hf hR k1 k0 kM => ?_, fun u w' d hf hR k1 k0 kM => ?_, fun u w' d hf hR k1 k0 kM => ?_, fun u w' d hf hR k1 k0 kM => ?_, fun u w' d hf hR k1 k0 kM => ?_, fun u w' d hf hR k1 k0 kM => ?_, fun u w' d hf hR k1 k0 kM => ?_, fun u w' d hf hR k1 k0 kM => ?_, fun u w' d hf hR k1 k0 kM => ?_, trivial⟩
        all_goals simp only [List.take_succ_cons, List.take_zero, List.map_cons, List.map_nil, puts, Act.put, List.setIfInBounds_toArray, List.set_cons_zero, List.set_cons_succ, Nat.reduceAdd, Nat.zero_add]
        · clear hR k1 k0 kM
          refine .inl ⟨by kernel_rfl, ?_⟩
          go_simp
          refine (CK.out _ (F9.out.trans hf)).mono ?_
          rintro e w4 ⟨rfl, f4⟩
          exact ⟨_, rfl, f4.weak, rfl, trivial⟩
        · have h0 : u 0 = _ := hR 0 (by kernel_rfl)
          clear hR k1 k0 kM
          simp only [h0]
          refine .inl ⟨by kernel_rfl, ?_⟩
          go_simp
          exact ⟨_, rfl, Fr.refl _ _, rfl, trivial⟩
        · have h1 : u 1 = _ := hR 1 (by kernel_rfl)
          clear hR k1 k0 kM
          simp only [h1]
          refine .inl ⟨by kernel_rfl, ?_⟩
          go_simp
          exact ⟨_, rfl, Fr.refl _ _, rfl, trivial⟩
        · have h1 : u 1 = _ := hR 1 (by kernel_rfl)
          clear hR k1 k0 kM
          simp only [h1]
          refine .inl ⟨by kernel_rfl, ?_⟩
          go_simp
          exact ⟨_, rfl, Fr.refl _ _, rfl, trivial⟩
        · have h2 : u 2 = _ := hR 2 (by kernel_rfl)
          have h3 : u 3 = _ := hR 3 (by kernel_rfl)
          have h1 : u 1 = _ := hR 1 (by kernel_rfl)
          clear hR k1 k0 kM
          simp only [h2, h3, h1]
          refine .inl ⟨by kernel_rfl, ?_⟩
          go_simp
          exact ⟨_, rfl, Fr.refl _ _, rfl, trivial⟩
        · have h1 : u 1 = _ := hR 1 (by kernel_rfl)
          have h4 : u 4 = _ := hR 4 (by kernel_rfl)
          clear hR k1 k0 kM
          simp only [h1, h4]
          refine .inl ⟨by kernel_rfl, ?_⟩
          go_simp
          exact ⟨_, rfl, Fr.refl _ _, rfl, trivial⟩
        · have h5 : u 5 = _ := hR 5 (by kernel_rfl)
          clear hR k1 k0 kM
          simp only [h5]
          refine .inl ⟨by kernel_rfl, ?_⟩
          go_simp
          exact ⟨_, rfl, Fr.refl _ _, rfl, trivial⟩
        · have h6 : u 6 = _ := hR 6 (by kernel_rfl)
          clear hR k1 k0 kM
          simp only [h6]
          refine .inl ⟨by kernel_rfl, ?_⟩
          exact wp_load_mid _ _ rfl g3 0 rfl AV _ (range_blk (B3.out.fr hf (fun x => x))) Tryd.underlying24 rfl HAV.out ⟨_, rfl, Fr.refl _ _, rfl, trivial⟩
        · have h6 : u 6 = _ := hR 6 (by kernel_rfl)
          clear hR k1 k0 kM
          simp only [h6]
          refine .inl ⟨by kernel_rfl, ?_⟩
          exact wp_load_mid _ _ rfl g6 0 rfl AV _ (range_blk (B6.out.fr hf (fun x => x))) Tryd.underlying23 rfl RAV.out ⟨_, rfl, Fr.refl _ _, rfl, trivial⟩
        · have h7 : u 7 = _ := hR 7 (by kernel_rfl)
          have h8 : u 8 = _ := hR 8 (by kernel_rfl)
          have h6 : u 6 = _ := hR 6 (by kernel_rfl)
          clear hR k1 k0 kM
          simp only [h7, h8, h6]
          refine .inl ⟨by kernel_rfl, ?_⟩
          exact wp_binAgg _ _ _ _ _ rfl _ _ rfl rfl Tryd.eqGuardType23 _ (qa.out _) ⟨_, rfl, Fr.refl _ _, rfl, trivial⟩
        · have h6 : u 6 = _ := hR 6 (by kernel_rfl)
          have h9 : u 9 = _ := hR 9 (by kernel_rfl)
          clear hR k1 k0 kM
          simp only [h6, h9]
          refine .inl ⟨by kernel_rfl, ?_⟩
          go_simp
          exact ⟨_, rfl, Fr.refl _ _, rfl, trivial⟩
        · have h10 : u 10 = _ := hR 10 (by kernel_rfl)
          clear hR k1 k0 kM
          simp only [h10]
          refine .inl ⟨by kernel_rfl, ?_⟩
          go_simp
          exact ⟨_, rfl, Fr.refl _ _, rfl, trivial⟩
        · have h11 : u 11 = _ := hR 11 (by kernel_rfl)
          clear hR k1 k0 kM
          simp only [h11]
          refine .inl ⟨by kernel_rfl, ?_⟩
          exact wp_load_mid _ _ rfl g4 0 rfl BV _ (range_blk (B4.out.fr hf (fun x => x))) Tryd.underlying24 rfl HBV.out ⟨_, rfl, Fr.refl _ _, rfl, trivial⟩
        · have h11 : u 11 = _ := hR 11 (by kernel_rfl)
          clear hR k1 k0 kM
          simp only [h11]
          refine .inl ⟨by kernel_rfl, ?_⟩
          exact wp_load_mid _ _ rfl g7 0 rfl BV _ (range_blk (B7.out.fr hf (fun x => x))) Tryd.underlying23 rfl RBV.out ⟨_, rfl, Fr.refl _ _, rfl, trivial⟩
        · have h12 : u 12 = _ := hR 12 (by kernel_rfl)
          have h13 : u 13 = _ := hR 13 (by kernel_rfl)
          have h11 : u 11 = _ := hR 11 (by kernel_rfl)
          clear hR k1 k0 kM
          simp only [h12, h13, h11]
          refine .inl ⟨by kernel_rfl, ?_⟩
          exact wp_binAgg _ _ _ _ _ rfl _ _ rfl rfl Tryd.eqGuardType23 _ (qb.out _) ⟨_, rfl, Fr.refl _ _, rfl, trivial⟩
        · have h11 : u 11 = _ := hR 11 (by kernel_rfl)
          have h14 : u 14 = _ := hR 14 (by kernel_rfl)
          clear hR k1 k0 kM
          simp only [h11, h14]
          refine .inl ⟨by kernel_rfl, ?_⟩
          go_simp
          exact ⟨_, rfl, Fr.refl _ _, rfl, trivial⟩
      · intro u w' hf hR kM
        have h15 : u 15 = _ := hR 15 (by omega)
        clear hR kM
        simp only [List.take_succ_cons, List.take_zero, List.map_cons, List.map_nil, puts, Act.put, List.setIfInBounds_toArray, List.set_cons_zero, List.set_cons_succ, List.drop_succ_cons, List.drop_zero, Nat.reduceAdd, Nat.zero_add, h15]
        have JF := Lib.hid (F9.out.trans hf)
        clear hf
        go_wp2
        go_ret
        exact ⟨rfl, JF.out⟩
end Go.Proofs.YtkaghbpdnmigmaaDoor
