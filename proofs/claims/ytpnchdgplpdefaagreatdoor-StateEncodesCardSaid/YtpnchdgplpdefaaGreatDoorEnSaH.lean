/- State: the laws' To: written by genSaH.py. -/
import Derived.Test.YtpnchdgplpdefaaGreatDoorEnSaF
namespace Go.Proofs.YtpnchdgplpdefaaGreatDoor
open Go.RowKit
theorem infoN : (Tryz.prog.info? 57).map (·.size) = some 5 := by kernel_rfl
theorem builtCh (c : CV) : Tryz.prog.built 55 [(0, .agg c.nm.cells.toArray), (1, .string c.value), (2, .bool c.absent)] = some c.cells.toArray := by kernel_rfl
def zeroC : Value := .agg #[.int .i64 0, .string ByteArray.empty, .int .i64 0, .int .i64 0, .string ByteArray.empty, .string ByteArray.empty, .bool false]
theorem zvC (w : World) : (zeroValue 59).run Tryz.prog w = .ok zeroC w := by kernel_rfl
theorem zinfoC : (Tryz.prog.info? 59).map (fun i => (i.zero, i.size, i.bytes)) = some (some zeroC, 7, 80) := by kernel_rfl
theorem zinfoCh : (Tryz.prog.info? 55).map (fun i => (i.zero, i.size, i.bytes)) = some (some zeroC, 7, 80) := by kernel_rfl
theorem foldl_set : ∀ (l : List Value) (k off : Nat) (b : List Value), off + k + l.length ≤ b.length → (l.zipIdx k).foldl (fun cs x => cs.setIfInBounds (off + x.2) x.1) b.toArray = (b.take (off + k) ++ l ++ b.drop (off + k + l.length)).toArray
 | [], k, off, b, _ => by simp
 | c :: r, k, off, b, h => by
  simp only [List.length_cons] at h
  rw [List.zipIdx_cons, List.foldl_cons, List.setIfInBounds_toArray, foldl_set r (k + 1) off (b.set (off + k) c) (by rw [List.length_set]; omega)]
  congr 1
  have e1 : (b.set (off + k) c).take (off + (k + 1)) = b.take (off + k) ++ [c] := by
   rw [List.take_set, show off + (k + 1) = (off + k) + 1 by omega, List.take_succ_eq_append_getElem (by omega : off + k < b.length), List.set_append_right _ _ (by simp; omega)]
   simp
   rw [show off + k - min (off + k) b.length = 0 by omega]
   rfl
  have e2 : (b.set (off + k) c).drop (off + (k + 1) + r.length) = b.drop (off + k + (c :: r).length) := by
   rw [List.drop_set_of_lt (by omega)]
   congr 1
   simp only [List.length_cons]; omega
  rw [e1, e2]
  simp
theorem fold_arr (cs b : Array Value) (off : Nat) (h : off + cs.size ≤ b.size) : cs.zipIdx.foldl (fun cs (x : Value × Nat) => cs.setIfInBounds (off + x.2) x.1) b = (b.toList.take off ++ cs.toList ++ b.toList.drop (off + cs.size)).toArray := by
 rw [← Array.foldl_toList, Array.toList_zipIdx]
 have := foldl_set cs.toList 0 off b.toList (by simpa using h)
 simpa using this
theorem fill_seven (cs b : Array Value) (hc : cs.size = 7) (hb : b.size = 7) : Instr.fill (fun i => some (i * 7, 7)) b [(0, .agg cs)] = some cs := by
 have hf := fold_arr cs b 0 (by omega)
 simp only [Instr.fill, Value.cells, hc, hb, Nat.zero_mul, Nat.zero_add, ne_eq, not_true_eq_false, decide_false, Bool.false_or, gt_iff_lt, Nat.lt_irrefl, Bool.false_eq_true, if_false]
 simp only [Nat.zero_add, List.take_zero, List.nil_append, hc] at hf
 rw [List.drop_of_length_le (by simp [hb]), List.append_nil] at hf
 rw [hf]
theorem own_types {w : World} {base n m : Nat} {e e' : TypeId} {size size' : Nat} {v v' : Value} {xs ys : List Value} (h : w.ownsRow base e size v n xs) (h' : w.ownsRow base e' size' v' m ys) (hne : e ≠ e') : ∀ k, v.ownBlock = some k → v'.ownBlock ≠ some k := by
 intro k h1 h2
 rcases h.2 with ⟨rfl, _⟩ | ⟨g, cap, cur, rfl, _, hb, _⟩
 ·cases h1
 ·rcases h'.2 with ⟨rfl, _⟩ | ⟨g', cap', cur', rfl, _, hb', _⟩
  ·cases h2
  ·simp only [Value.ownBlock, Option.some.injEq] at h1 h2
   subst h1
   subst h2
   rw [hb] at hb'
   cases hb'
   exact hne rfl
theorem own_lt {w : World} {base n k : Nat} {e : TypeId} {size : Nat} {v : Value} {xs : List Value} (h : w.ownsRow base e size v n xs) (hk : v.ownBlock = some k) : k < w.heap.size := by
 rcases h.2 with ⟨rfl, _⟩ | ⟨g, cap, cur, rfl, _, hb, _⟩
 ·cases hk
 ·simp only [Value.ownBlock, Option.some.injEq] at hk
  subst hk
  exact (Array.getElem?_eq_some_iff.1 hb).1
theorem Grew.move {e : TypeId} {size : Nat} {w w1 w2 : World} {v : Value} {n : Nat} {xs : List Value} {T : Nat → Prop} (h : Grew e size w (.slice none 0 0) w1 v n xs) (hf : Fr T w1 w2) (hT : ∀ k, v.ownBlock = some k → ¬ T k) (h0 : Fr Nothing w w2) : Grew e size w (.slice none 0 0) w2 v n xs :=
 ⟨own_fr h.own hf hT, h0.weak, h.lies⟩
set_option maxRecDepth 100000 in
set_option maxHeartbeats 4000000 in
theorem To_any (n : Nat) (xs : List CV) (A : Option Addr) (c0 : Nat) (S : Nat → Prop) (w : World) (hD : CL w S A n xs) (hn : n ≤ 9223372036854775807) :
  Calls Tryz.prog 18 #[.slice A n c0] w (fun e w' => ∃ v4 v5, e = .returned (.tuple #[v4, v5]) ∧ Grew 55 7 w (.slice none 0 0) w' v4 (min n 24) (((xs.take (min n 24)).map CV.cut).flatMap CV.cells) ∧ Grew 59 7 w (.slice none 0 0) w' v5 (min n 24) (((xs.take (min n 24)).map CV.cut).flatMap CV.cells)) := by
 obtain ⟨ic, hic, hzc, hc1, hc2⟩ := info_parts zinfoC
 obtain ⟨ih, hih, hzh, hh1, hh2⟩ := info_parts zinfoCh
 have HD := Lib.hid hD
 clear hD
 go_enter Tryz.func18, Tryz.ntmps18
 go_wp2
 go_loopw [4, 5, 6] (fun v4 v5 i wr => ∃ k : Nat, k ≤ min n 24 ∧ i = .int .i64 k ∧ Grew 55 7 w (.slice none 0 0) wr v4 k (((xs.take k).map CV.cut).flatMap CV.cells) ∧ Grew 59 7 w (.slice none 0 0) wr v5 k (((xs.take k).map CV.cut).flatMap CV.cells)) (fun _ _ i _ => 24 - (intOf i).toNat)
 case atStart => exact ⟨0, by omega, rfl, Grew.start ⟨rfl, .inl ⟨rfl, rfl⟩⟩, Grew.start ⟨rfl, .inl ⟨rfl, rfl⟩⟩⟩
 case round =>
  obtain ⟨k, hk, rfl, hG4, hG5⟩ := hrel
  have K4 := Lib.hid hG4
  have K5 := Lib.hid hG5
  obtain ⟨A4, n4, c4, rfl, H4, _⟩ := own_slice hG4.own
  obtain ⟨A5, n5, c5, rfl, H5, _⟩ := own_slice hG5.own
  clear hG4 hG5
  by_cases hlt : k < min n 24
  ·have hkn : k < n := by omega
   have hI : (k : Int) < (n : Int) := by omega
   have h24 : (k : Int) < 24 := by omega
   have h24' : k < 24 := by omega
   obtain ⟨ad, c, rfl, hc, hcell⟩ := (HD.out.fr0 K4.out.fr0).at_ hkn
   have HCE := Lib.hid hcell
   have CO := Lib.hid c.one
   have HT : Hid (((xs.take (k + 1)).map CV.cut).flatMap CV.cells = ((xs.take k).map CV.cut).flatMap CV.cells ++ c.cut.cells) := by
    simp only [Hid]
    rw [List.take_add_one, hc]
    simp
   have f0 : Fr Nothing w wr := K4.out.fr0
   have F0 := Lib.hid f0
   have NE := Lib.hid (own_types K4.out.own K5.out.own (by decide))
   obtain ⟨j0, hj0⟩ : ∃ j0 : Int, min (c.value.size : Int) 200 = j0 := ⟨_, rfl⟩
   obtain ⟨j1, hj1⟩ : ∃ j1 : Int, min (c.nm.owner.size : Int) 100 = j1 := ⟨_, rfl⟩
   obtain ⟨j2, hj2⟩ : ∃ j2 : Int, min (c.nm.text.size : Int) 100 = j2 := ⟨_, rfl⟩
   have p0 : 0 ≤ j0 := by omega
   have q0 : j0 ≤ (c.value.size : Int) := by omega
   have p1 : 0 ≤ j1 := by omega
   have q1 : j1 ≤ (c.nm.owner.size : Int) := by omega
   have p2 : 0 ≤ j2 := by omega
   have q2 : j2 ≤ (c.nm.text.size : Int) := by omega
   obtain ⟨v5, hv5⟩ : ∃ v5, c.value.extract 0 j0.toNat = v5 := ⟨_, rfl⟩
   obtain ⟨o5, ho5⟩ : ∃ o5, c.nm.owner.extract 0 j1.toNat = o5 := ⟨_, rfl⟩
   obtain ⟨t5, ht5⟩ : ∃ t5, c.nm.text.extract 0 j2.toNat = t5 := ⟨_, rfl⟩
   have HCUT : Hid (c.cut = ⟨⟨c.nm.kind, o5, c.nm.number, c.nm.index, t5⟩, v5, c.absent⟩) := by
    simp only [Hid, CV.cut, cutS, hj0, hj1, hj2, hv5, ho5, ht5]
   clear hcell hc f0 hlt hk
   go_wp2_with (refine wpList_load_add rfl 59 (.tmp 20) rfl _ rfl c.cells _ ?hcc Tryz.underlying59 rfl infoC (Held.go ?hold))
   case hcc => exact HCE.out
   unfold Held
   go_wp2_with (refine wpList_allocBlk rfl 59 rfl zeroC zvC #[.int .i64 0, .string ByteArray.empty, .int .i64 0, .int .i64 0, .string ByteArray.empty, .string ByteArray.empty, .bool false] rfl ?_)
   intro wa na
   have NA := Lib.hid na
   clear na
   generalize hg7 : wr.heap.size = g7 at *
   have HG7 := Lib.hid hg7
   clear hg7
   have BA : Hid (Blk wa g7 59 #[.int .i64 0, .string ByteArray.empty, .int .i64 0, .int .i64 0, .string ByteArray.empty, .string ByteArray.empty, .bool false]) := by have h := NA.out.blk; rw [HG7.out] at h; exact h
   go_wp2_with (refine wpList_storeBlk rfl 59 (.tmp 7) _ rfl g7 c.cells.toArray rfl rfl _ _ BA.out infoC rfl CO.out ?_)
   intro wb bb fb
   have B6 : Hid (Blk wb g7 59 #[.int .i64 c.nm.kind, .string c.nm.owner, .int .i64 c.nm.number, .int .i64 c.nm.index, .string c.nm.text, .string c.value, .bool c.absent]) := bb
   have FB : Hid (Fr Nothing wr wb) := NA.out.fr.then_ fb (fun i hi e => by have e' : i = g7 := e; have := HG7.out; omega)
   clear bb fb NA BA
   have OS : Hid ((Value.string v5).oneCell' = true) := by simp [Hid, Value.oneCell']
   go_upto_region 7 with fail
   refine wp_region_sq 9 (fun k => k = g7) [Is (.pointer (some ⟨g7, 5, none⟩)), Is (.string c.value), Is (.pointer (some ⟨g7, 5, none⟩)), Is (.string c.value), Is (.int .i64 c.value.size), Is (.int .i64 j0), Is (.string v5), Is (.pointer (some ⟨g7, 5, none⟩)), Is (undef)] [(8, fun W => Blk W g7 59 #[.int .i64 c.nm.kind, .string c.nm.owner, .int .i64 c.nm.number, .int .i64 c.nm.index, .string c.nm.text, .string v5, .bool c.absent])] (fun W => Blk W g7 59 #[.int .i64 c.nm.kind, .string c.nm.owner, .int .i64 c.nm.number, .int .i64 c.nm.index, .string c.nm.text, .string c.value, .bool c.absent]) (fun i j => j == 8 && decide (i < 8)) (by kernel_rfl) (by kernel_rfl) (by kernel_rfl) ⟨Is.stable _, Is.stable _, Is.stable _, Is.stable _, Is.stable _, Is.stable _, Is.stable _, Is.stable _, Is.stable _, trivial⟩ ⟨fun _ _ _ hf h => h.fr hf (fun x => x), trivial⟩ (fun _ _ _ hf h => h.fr hf (fun x => x)) B6.out ?_ ?_
   ·refine ⟨fun u w' d hf hR k1 k0 kM => ?_, fun u w' d hf hR k1 k0 kM => ?_, fun u w' d hf hR k1 k0 kM => ?_, fun u w' d hf hR k1 k0 kM => ?_, fun u w' d hf hR k1 k0 kM => ?_, fun u w' d hf hR k1 k0 kM => ?_, fun u w' d hf hR k1 k0 kM => ?_, fun u w' d hf hR k1 k0 kM => ?_, fun u w' d hf hR k1 k0 kM => ?_, trivial⟩
    all_goals simp only [List.take_succ_cons, List.take_zero, List.map_cons, List.map_nil, puts, Act.put, List.setIfInBounds_toArray, List.set_cons_zero, List.set_cons_succ, Nat.reduceAdd, Nat.zero_add]
    ·clear hR k1 k0 kM
     refine .inl ⟨by kernel_rfl, ?_⟩
     go_simp
     exact ⟨_, rfl, Fr.refl _ _, rfl, trivial⟩
    ·have h0 : u 0 = _ := hR 0 (by kernel_rfl)
     clear hR
     simp only [h0]
     refine .inl ⟨by kernel_rfl, ?_⟩
     have hB : Blk w' g7 59 #[.int .i64 c.nm.kind, .string c.nm.owner, .int .i64 c.nm.number, .int .i64 c.nm.index, .string c.nm.text, .string c.value, .bool c.absent] := by rw [stage, if_neg (by rw [k0 8 (by kernel_rfl)]; exact Bool.false_ne_true)] at kM; exact kM
     clear k1 k0 kM
     have hc : w'.cell? ⟨g7, 5, none⟩ = some (.string c.value) := hB.cell 5
     go_simp
     exact ⟨_, rfl, Fr.refl _ _, rfl, trivial⟩
    ·clear hR k1 k0 kM
     refine .inl ⟨by kernel_rfl, ?_⟩
     go_simp
     exact ⟨_, rfl, Fr.refl _ _, rfl, trivial⟩
    ·have h2 : u 2 = _ := hR 2 (by kernel_rfl)
     clear hR
     simp only [h2]
     refine .inl ⟨by kernel_rfl, ?_⟩
     have hB : Blk w' g7 59 #[.int .i64 c.nm.kind, .string c.nm.owner, .int .i64 c.nm.number, .int .i64 c.nm.index, .string c.nm.text, .string c.value, .bool c.absent] := by rw [stage, if_neg (by rw [k0 8 (by kernel_rfl)]; exact Bool.false_ne_true)] at kM; exact kM
     clear k1 k0 kM
     have hc : w'.cell? ⟨g7, 5, none⟩ = some (.string c.value) := hB.cell 5
     go_simp
     exact ⟨_, rfl, Fr.refl _ _, rfl, trivial⟩
    ·have h3 : u 3 = _ := hR 3 (by kernel_rfl)
     clear hR k1 k0 kM
     simp only [h3]
     refine .inl ⟨by kernel_rfl, ?_⟩
     go_simp
     exact ⟨_, rfl, Fr.refl _ _, rfl, trivial⟩
    ·have h4 : u 4 = _ := hR 4 (by kernel_rfl)
     clear hR k1 k0 kM
     simp only [h4]
     refine .inl ⟨by kernel_rfl, ?_⟩
     go_simp
     exact ⟨_, rfl, Fr.refl _ _, rfl, trivial⟩
    ·have h1 : u 1 = _ := hR 1 (by kernel_rfl)
     have h5 : u 5 = _ := hR 5 (by kernel_rfl)
     clear hR k1 k0 kM
     simp only [h1, h5]
     refine .inl ⟨by kernel_rfl, ?_⟩
     go_simp
     exact ⟨_, rfl, Fr.refl _ _, rfl, trivial⟩
    ·clear hR k1 k0 kM
     refine .inl ⟨by kernel_rfl, ?_⟩
     go_simp
     exact ⟨_, rfl, Fr.refl _ _, rfl, trivial⟩
    ·have h7 : u 7 = _ := hR 7 (by kernel_rfl)
     have h6 : u 6 = _ := hR 6 (by kernel_rfl)
     clear hR
     simp only [h7, h6]
     refine .inl ⟨by kernel_rfl, ?_⟩
     have hB : Blk w' g7 59 #[.int .i64 c.nm.kind, .string c.nm.owner, .int .i64 c.nm.number, .int .i64 c.nm.index, .string c.nm.text, .string c.value, .bool c.absent] := by rw [stage, if_neg (by rw [k0 8 (by kernel_rfl)]; exact Bool.false_ne_true)] at kM; exact kM
     clear k1 k0 kM
     refine wp_storeOne 9 (.tmp 29) (.tmp 28) rfl g7 5 (.string v5) rfl rfl OS.out infoStr _ _ #[.int .i64 c.nm.kind, .string c.nm.owner, .int .i64 c.nm.number, .int .i64 c.nm.index, .string c.nm.text, .string v5, .bool c.absent] hB (show 5 < 7 by decide) rfl ?_
     intro w4 b4 f4
     exact ⟨_, rfl, f4, rfl, b4⟩
   ·intro u w' hf hR kM
    clear hR
    simp only [List.take_succ_cons, List.take_zero, List.map_cons, List.map_nil, puts, Act.put, List.setIfInBounds_toArray, List.set_cons_zero, List.set_cons_succ, List.drop_succ_cons, List.drop_zero, Nat.reduceAdd, Nat.zero_add]
    generalize w' = wc at *
    have B7 : Hid (Blk wc g7 59 #[.int .i64 c.nm.kind, .string c.nm.owner, .int .i64 c.nm.number, .int .i64 c.nm.index, .string c.nm.text, .string v5, .bool c.absent]) := kM
    have FC : Hid (Fr Nothing wr wc) := FB.out.then_ hf (fun i hi e => by have e' : i = g7 := e; have := HG7.out; omega)
    clear kM hf B6 FB
    go_upto_region 8 with fail
    refine wp_region_st 23 (fun k => k = g7) [Is (.pointer (some ⟨g7, 0, none⟩)), Is (.pointer (some ⟨g7, 1, none⟩)), Is (.string c.nm.owner), Is (.pointer (some ⟨g7, 0, none⟩)), Is (.pointer (some ⟨g7, 1, none⟩)), Is (.string c.nm.owner), Is (.int .i64 c.nm.owner.size), Is (.int .i64 j1), Is (.string o5), Is (.pointer (some ⟨g7, 0, none⟩)), Is (.pointer (some ⟨g7, 4, none⟩)), Is (.string c.nm.text), Is (.pointer (some ⟨g7, 0, none⟩)), Is (.pointer (some ⟨g7, 4, none⟩)), Is (.string c.nm.text), Is (.int .i64 c.nm.text.size), Is (.int .i64 j2), Is (.string t5), Is (.pointer (some ⟨g7, 0, none⟩)), Is (.pointer (some ⟨g7, 1, none⟩)), Is (undef), Is (.pointer (some ⟨g7, 0, none⟩)), Is (.pointer (some ⟨g7, 4, none⟩))] [(20, fun W => Blk W g7 59 #[.int .i64 c.nm.kind, .string o5, .int .i64 c.nm.number, .int .i64 c.nm.index, .string c.nm.text, .string v5, .bool c.absent])] (fun W => Blk W g7 59 #[.int .i64 c.nm.kind, .string c.nm.owner, .int .i64 c.nm.number, .int .i64 c.nm.index, .string c.nm.text, .string v5, .bool c.absent]) (fun i j => j == 20 && (decide (i < 15) || i == 19)) (by kernel_rfl) (by kernel_rfl) (by kernel_rfl) (by kernel_rfl) ⟨Is.stable _, Is.stable _, Is.stable _, Is.stable _, Is.stable _, Is.stable _, Is.stable _, Is.stable _, Is.stable _, Is.stable _, Is.stable _, Is.stable _, Is.stable _, Is.stable _, Is.stable _, Is.stable _, Is.stable _, Is.stable _, Is.stable _, Is.stable _, Is.stable _, Is.stable _, Is.stable _, trivial⟩ ⟨fun _ _ _ hf h => h.fr hf (fun x => x), trivial⟩ (fun _ _ _ hf h => h.fr hf (fun x => x)) B7.out.drew ?_ ?_
    ·refine ⟨fun u w' d hf hR k1 k0 kM => ?_, fun u w' d hf hR k1 k0 kM => ?_, fun u w' d hf hR k1 k0 kM => ?_, fun u w' d hf hR k1 k0 kM => ?_, fun u w' d hf hR k1 k0 kM => ?_, fun u w' d hf hR k1 k0 kM => ?_, fun u w' d hf hR k1 k0 kM => ?_, fun u w' d hf hR k1 k0 kM => ?_, fun u w' d hf hR k1 k0 kM => ?_, fun u w' d hf hR k1 k0 kM => ?_, fun u w' d hf hR k1 k0 kM => ?_, fun u w' d hf hR k1 k0 kM => ?_, fun u w' d hf hR k1 k0 kM => ?_, fun u w' d hf hR k1 k0 kM => ?_, fun u w' d hf hR k1 k0 kM => ?_, fun u w' d hf hR k1 k0 kM => ?_, fun u w' d hf hR k1 k0 kM => ?_, fun u w' d hf hR k1 k0 kM => ?_, fun u w' d hf hR k1 k0 kM => ?_, fun u w' d hf hR k1 k0 kM => ?_, fun u w' d hf hR k1 k0 kM => ?_, fun u w' d hf hR k1 k0 kM => ?_, fun u w' d hf hR k1 k0 kM => ?_, trivial⟩
     all_goals simp only [List.take_succ_cons, List.take_zero, List.map_cons, List.map_nil, puts, Act.put, List.setIfInBounds_toArray, List.set_cons_zero, List.set_cons_succ, Nat.reduceAdd, Nat.zero_add]
     ·clear hR k1 k0 kM
      refine .inl ⟨by kernel_rfl, ?_⟩
      go_simp
      exact ⟨_, rfl, Fr.refl _ _, rfl, trivial⟩
     ·have h0 : u 0 = _ := hR 0 (by kernel_rfl)
      clear hR k1 k0 kM
      simp only [h0]
      refine .inl ⟨by kernel_rfl, ?_⟩
      go_simp
      exact ⟨_, rfl, Fr.refl _ _, rfl, trivial⟩
     ·have h1 : u 1 = _ := hR 1 (by kernel_rfl)
      clear hR
      simp only [h1]
      refine .inl ⟨by kernel_rfl, ?_⟩
      have hB : Blk w' g7 59 #[.int .i64 c.nm.kind, .string c.nm.owner, .int .i64 c.nm.number, .int .i64 c.nm.index, .string c.nm.text, .string v5, .bool c.absent] := by rw [stage, if_neg (by rw [k0 20 (by kernel_rfl)]; exact Bool.false_ne_true)] at kM; exact kM
      clear k1 k0 kM
      have hc : w'.cell? ⟨g7, 1, none⟩ = some (.string c.nm.owner) := hB.cell 1
      go_simp
      exact ⟨_, rfl, Fr.refl _ _, rfl, trivial⟩
     ·clear hR k1 k0 kM
      refine .inl ⟨by kernel_rfl, ?_⟩
      go_simp
      exact ⟨_, rfl, Fr.refl _ _, rfl, trivial⟩
     ·have h3 : u 3 = _ := hR 3 (by kernel_rfl)
      clear hR k1 k0 kM
      simp only [h3]
      refine .inl ⟨by kernel_rfl, ?_⟩
      go_simp
      exact ⟨_, rfl, Fr.refl _ _, rfl, trivial⟩
     ·have h4 : u 4 = _ := hR 4 (by kernel_rfl)
      clear hR
      simp only [h4]
      refine .inl ⟨by kernel_rfl, ?_⟩
      have hB : Blk w' g7 59 #[.int .i64 c.nm.kind, .string c.nm.owner, .int .i64 c.nm.number, .int .i64 c.nm.index, .string c.nm.text, .string v5, .bool c.absent] := by rw [stage, if_neg (by rw [k0 20 (by kernel_rfl)]; exact Bool.false_ne_true)] at kM; exact kM
      clear k1 k0 kM
      have hc : w'.cell? ⟨g7, 1, none⟩ = some (.string c.nm.owner) := hB.cell 1
      go_simp
      exact ⟨_, rfl, Fr.refl _ _, rfl, trivial⟩
     ·have h5 : u 5 = _ := hR 5 (by kernel_rfl)
      clear hR k1 k0 kM
      simp only [h5]
      refine .inl ⟨by kernel_rfl, ?_⟩
      go_simp
      exact ⟨_, rfl, Fr.refl _ _, rfl, trivial⟩
     ·have h6 : u 6 = _ := hR 6 (by kernel_rfl)
      clear hR k1 k0 kM
      simp only [h6]
      refine .inl ⟨by kernel_rfl, ?_⟩
      go_simp
      exact ⟨_, rfl, Fr.refl _ _, rfl, trivial⟩
     ·have h2 : u 2 = _ := hR 2 (by kernel_rfl)
      have h7 : u 7 = _ := hR 7 (by kernel_rfl)
      clear hR k1 k0 kM
      simp only [h2, h7]
      refine .inl ⟨by kernel_rfl, ?_⟩
      go_simp
      exact ⟨_, rfl, Fr.refl _ _, rfl, trivial⟩
     ·clear hR k1 k0 kM
      refine .inl ⟨by kernel_rfl, ?_⟩
      go_simp
      exact ⟨_, rfl, Fr.refl _ _, rfl, trivial⟩
     ·have h9 : u 9 = _ := hR 9 (by kernel_rfl)
      clear hR k1 k0 kM
      simp only [h9]
      refine .inl ⟨by kernel_rfl, ?_⟩
      go_simp
      exact ⟨_, rfl, Fr.refl _ _, rfl, trivial⟩
     ·have h10 : u 10 = _ := hR 10 (by kernel_rfl)
      clear hR
      simp only [h10]
      refine .inl ⟨by kernel_rfl, ?_⟩
      have hB : Blk w' g7 59 #[.int .i64 c.nm.kind, .string c.nm.owner, .int .i64 c.nm.number, .int .i64 c.nm.index, .string c.nm.text, .string v5, .bool c.absent] := by rw [stage, if_neg (by rw [k0 20 (by kernel_rfl)]; exact Bool.false_ne_true)] at kM; exact kM
      clear k1 k0 kM
      have hc : w'.cell? ⟨g7, 4, none⟩ = some (.string c.nm.text) := hB.cell 4
      go_simp
      exact ⟨_, rfl, Fr.refl _ _, rfl, trivial⟩
     ·clear hR k1 k0 kM
      refine .inl ⟨by kernel_rfl, ?_⟩
      go_simp
      exact ⟨_, rfl, Fr.refl _ _, rfl, trivial⟩
     ·have h12 : u 12 = _ := hR 12 (by kernel_rfl)
      clear hR k1 k0 kM
      simp only [h12]
      refine .inl ⟨by kernel_rfl, ?_⟩
      go_simp
      exact ⟨_, rfl, Fr.refl _ _, rfl, trivial⟩
     ·have h13 : u 13 = _ := hR 13 (by kernel_rfl)
      clear hR
      simp only [h13]
      refine .inl ⟨by kernel_rfl, ?_⟩
      have hB : Blk w' g7 59 #[.int .i64 c.nm.kind, .string c.nm.owner, .int .i64 c.nm.number, .int .i64 c.nm.index, .string c.nm.text, .string v5, .bool c.absent] := by rw [stage, if_neg (by rw [k0 20 (by kernel_rfl)]; exact Bool.false_ne_true)] at kM; exact kM
      clear k1 k0 kM
      have hc : w'.cell? ⟨g7, 4, none⟩ = some (.string c.nm.text) := hB.cell 4
      go_simp
      exact ⟨_, rfl, Fr.refl _ _, rfl, trivial⟩
     ·have h14 : u 14 = _ := hR 14 (by kernel_rfl)
      clear hR k1 k0 kM
      simp only [h14]
      refine .inl ⟨by kernel_rfl, ?_⟩
      go_simp
      exact ⟨_, rfl, Fr.refl _ _, rfl, trivial⟩
     ·have h15 : u 15 = _ := hR 15 (by kernel_rfl)
      clear hR k1 k0 kM
      simp only [h15]
      refine .inl ⟨by kernel_rfl, ?_⟩
      go_simp
      exact ⟨_, rfl, Fr.refl _ _, rfl, trivial⟩
     ·have h11 : u 11 = _ := hR 11 (by kernel_rfl)
      have h16 : u 16 = _ := hR 16 (by kernel_rfl)
      clear hR k1 k0 kM
      simp only [h11, h16]
      refine .inl ⟨by kernel_rfl, ?_⟩
      go_simp
      exact ⟨_, rfl, Fr.refl _ _, rfl, trivial⟩
     ·clear hR k1 k0 kM
      refine .inl ⟨by kernel_rfl, ?_⟩
      go_simp
      exact ⟨_, rfl, Fr.refl _ _, rfl, trivial⟩
     ·have h18 : u 18 = _ := hR 18 (by kernel_rfl)
      clear hR k1 k0 kM
      simp only [h18]
      refine .inl ⟨by kernel_rfl, ?_⟩
      go_simp
      exact ⟨_, rfl, Fr.refl _ _, rfl, trivial⟩
     ·have h19 : u 19 = _ := hR 19 (by kernel_rfl)
      have h8 : u 8 = _ := hR 8 (by kernel_rfl)
      clear hR
      simp only [h19, h8]
      refine .inl ⟨by kernel_rfl, ?_⟩
      have hB : Blk w' g7 59 #[.int .i64 c.nm.kind, .string c.nm.owner, .int .i64 c.nm.number, .int .i64 c.nm.index, .string c.nm.text, .string v5, .bool c.absent] := by rw [stage, if_neg (by rw [k0 20 (by kernel_rfl)]; exact Bool.false_ne_true)] at kM; exact kM
      clear k1 k0 kM
      refine wp_storeOne 9 (.tmp 49) (.tmp 38) rfl g7 1 (.string o5) rfl rfl rfl infoStr _ _ _ hB (show 1 < 7 by decide) rfl ?_
      intro w4 b4 f4
      exact ⟨_, rfl, f4, rfl, b4⟩
     ·clear hR k1 k0 kM
      refine .inl ⟨by kernel_rfl, ?_⟩
      go_simp
      exact ⟨_, rfl, Fr.refl _ _, rfl, trivial⟩
     ·have h21 : u 21 = _ := hR 21 (by kernel_rfl)
      clear hR k1 k0 kM
      simp only [h21]
      refine .inl ⟨by kernel_rfl, ?_⟩
      go_simp
      exact ⟨_, rfl, Fr.refl _ _, rfl, trivial⟩
    ·intro u w' hf hR kM
     have k17 : u 17 = _ := hR 17 (by omega)
     have k22 : u 22 = _ := hR 22 (by omega)
     clear hR
     simp only [List.take_succ_cons, List.take_zero, List.map_cons, List.map_nil, puts, Act.put, List.setIfInBounds_toArray, List.set_cons_zero, List.set_cons_succ, List.drop_succ_cons, List.drop_zero, Nat.reduceAdd, Nat.zero_add, k17, k22]
     have B8 : Hid (Blk w' g7 59 #[.int .i64 c.nm.kind, .string o5, .int .i64 c.nm.number, .int .i64 c.nm.index, .string c.nm.text, .string v5, .bool c.absent]) := kM
     have F8 : Hid (Fr Nothing wr w') := FC.out.then_ hf (fun i hi e => by have e' : i = g7 := e; have := HG7.out; omega)
     have OT : Hid ((Value.string t5).oneCell' = true) := by simp [Hid, Value.oneCell']
     have SZ4 : Hid (4 < (#[.int .i64 c.nm.kind, .string o5, .int .i64 c.nm.number, .int .i64 c.nm.index, .string c.nm.text, .string v5, .bool c.absent] : Array Value).size) := by simp [Hid]
     have ST4 : Hid ((#[.int .i64 c.nm.kind, .string o5, .int .i64 c.nm.number, .int .i64 c.nm.index, .string c.nm.text, .string v5, .bool c.absent] : Array Value).setIfInBounds 4 (.string t5) = #[.int .i64 c.nm.kind, .string o5, .int .i64 c.nm.number, .int .i64 c.nm.index, .string t5, .string v5, .bool c.absent]) := rfl
     clear kM hf B7 FC k17 k22
     refine wpList_storeOne rfl 9 (.tmp 51) (.tmp 47) rfl g7 4 (.string t5) rfl rfl OT.out infoStr 59 #[.int .i64 c.nm.kind, .string o5, .int .i64 c.nm.number, .int .i64 c.nm.index, .string c.nm.text, .string v5, .bool c.absent] #[.int .i64 c.nm.kind, .string o5, .int .i64 c.nm.number, .int .i64 c.nm.index, .string t5, .string v5, .bool c.absent] B8.out SZ4.out ST4.out ?_
     intro wd bd fd
     have B9 := Lib.hid bd
     have F9 : Hid (Fr Nothing wr wd) := F8.out.then_ fd (fun i hi e => by have e' : i = g7 := e; have := HG7.out; omega)
     clear bd fd B8 F8 OT SZ4 ST4
     obtain ⟨y, hy⟩ : ∃ y : CV, y = ⟨⟨c.nm.kind, o5, c.nm.number, c.nm.index, t5⟩, v5, c.absent⟩ := ⟨_, rfl⟩
     have HY : Hid (c.cut = y) := by rw [hy]; exact HCUT.out
     have YB : Hid (∀ W, Blk W g7 59 #[.int .i64 c.nm.kind, .string o5, .int .i64 c.nm.number, .int .i64 c.nm.index, .string t5, .string v5, .bool c.absent] → Blk W g7 59 y.cells.toArray) := fun W h => by rw [hy]; exact h
     obtain ⟨yn, hyn⟩ : ∃ yn : NameV, yn = y.nm := ⟨_, rfl⟩
     have YN : Hid (∀ W, Blk W g7 59 #[.int .i64 c.nm.kind, .string o5, .int .i64 c.nm.number, .int .i64 c.nm.index, .string t5, .string v5, .bool c.absent] → ∀ j x, yn.cells[j]? = some x → W.cell? ⟨g7, j, none⟩ = some x) := fun W h j x hx => by
      have hj : j < 5 := (List.getElem?_eq_some_iff.1 hx).1
      rw [(YB.out W h).cell, List.getElem?_toArray, CV.cells, List.getElem?_append_left (by rw [NameV.cells_length]; exact hj), ← hyn]
      exact hx
     have BCh : Hid (Tryz.prog.built 55 [(0, .agg yn.cells.toArray), (1, .string v5), (2, .bool c.absent)] = some y.cells.toArray) := by
      have h := builtCh y
      rw [← hyn, show y.value = v5 by rw [hy], show y.absent = c.absent by rw [hy]] at h
      exact h
     have YO : Hid (∀ u ∈ y.cells.toArray.toList, u.oneCell' = true) := by
      intro u hu
      have h := y.one
      rw [Array.all_eq_true_iff_forall_mem] at h
      exact h u (by simpa using hu)
     have YL : Hid (y.cells.toArray.size = 1 * 7) := rfl
     have YC0 : Hid (y.cells = y.cells.toArray.toList) := by simp [Hid]
     have B9y := Lib.hid (YB.out _ B9.out)
     have fl5 : Hid (Instr.fill (fun i => some (i * 7, 7)) ((Array.range (1 * 7)).map (zeroC.cells[· % zeroC.cells.size]!)) [(0, .agg y.cells.toArray)] = some y.cells.toArray) := fill_seven _ _ rfl (by simp)
     clear HCUT hy hyn
     generalize hYC : y.cells = YC at *
     have HYC := Lib.hid hYC
     clear hYC
     have gc1 : Hid (¬ 1 * ic.size > 2 ^ 24) := by simp only [Hid]; rw [hc1]; omega
     have gc2 : Hid (¬ 1 * ic.size = 0) := by simp only [Hid]; rw [hc1]; omega
     have gc3 : Hid (Instr.fill (fun i => some (i * ic.size, ic.size)) ((Array.range (1 * ic.size)).map (zeroC.cells[· % zeroC.cells.size]!)) [(0, .agg YC.toArray)] = some YC.toArray) := by simp only [Hid]; rw [hc1]; exact fl5.out
     have gh1 : Hid (¬ 1 * ih.size > 2 ^ 24) := by simp only [Hid]; rw [hh1]; omega
     have gh2 : Hid (¬ 1 * ih.size = 0) := by simp only [Hid]; rw [hh1]; omega
     have gh3 : Hid (Instr.fill (fun i => some (i * ih.size, ih.size)) ((Array.range (1 * ih.size)).map (zeroC.cells[· % zeroC.cells.size]!)) [(0, .agg YC.toArray)] = some YC.toArray) := by simp only [Hid]; rw [hh1]; exact fl5.out
     have ICv : Hid ((Tryz.prog.info? 59).map (·.size) = some YC.length) := by rw [← HYC.out]; exact infoC
     have L5 : Hid (∀ i, (Value.slice A5 n5 c5).ownBlock = some i → i < g7) := fun i hi => by have q := own_lt K5.out.own hi; have q2 := HG7.out; omega
     have M5 : Hid (wd.ownsRow 0 59 7 (.slice A5 n5 c5) k (((xs.take k).map CV.cut).flatMap CV.cells)) := own_fr K5.out.own F9.out (fun _ _ x => x)
     have M4 : Hid (wd.ownsRow 0 55 7 (.slice A4 n4 c4) k (((xs.take k).map CV.cut).flatMap CV.cells)) := own_fr K4.out.own F9.out (fun _ _ x => x)
     go_wp2_with (refine wpList_load_add rfl 59 (.tmp 7) rfl ⟨g7, 0, none⟩ rfl YC _ ?hcc2 Tryz.underlying59 rfl ICv.out (Held.go ?hold2))
     case hcc2 => exact fun j x hx => by first | (rw [Addr.add_mid, Nat.zero_add, B9y.out.cell, List.getElem?_toArray]; exact hx) | (rw [B9y.out.cell, List.getElem?_toArray]; exact hx)
     unfold Held
     refine wpList_buildSlice rfl 22 59 1 #[(0, .tmp 53)] rfl YC.toArray ic zeroC Tryz.underlying22 hic hzc gc1.out gc2.out (by simp only [List.map_toArray, List.map_cons, List.map_nil]; exact gc3.out) ?_
     refine wpList_app1 _ rfl _ _ 22 rfl 59 ic zeroC 7 80 Tryz.underlying22 hic hzc hc1 hc2 rfl (by decide) _ _ _ rfl M5.out 1 YC.toArray _ rfl rfl YL.out YO.out (by omega) (by decide) ?_
     intro v5' we hG
     have F9e : Hid (Fr Nothing w wd) := F0.out.trans F9.out
     have K5d : Hid (Grew 59 7 w (.slice none 0 0) wd (.slice A5 n5 c5) k (((xs.take k).map CV.cut).flatMap CV.cells)) := K5.out.behind F9.out
     have K5e : Hid (Grew 59 7 w (.slice none 0 0) we v5' (k + 1) (((xs.take (k + 1)).map CV.cut).flatMap CV.cells)) := by
      have h := K5d.out.trans hG
      simp only [Hid]
      rw [HT.out, HY.out, HYC.out]
      exact h
     have K4e : Hid (Grew 55 7 w (.slice none 0 0) we (.slice A4 n4 c4) k (((xs.take k).map CV.cut).flatMap CV.cells)) := (K4.out.behind F9.out).move hG.fr (fun i hi e => NE.out i hi e) K5e.out.fr0
     have B9e : Hid (Blk we g7 59 #[.int .i64 c.nm.kind, .string o5, .int .i64 c.nm.number, .int .i64 c.nm.index, .string t5, .string v5, .bool c.absent]) := B9.out.fr hG.fr (fun e => by have q := L5.out g7 e; omega)
     clear hG K5 K4 K5d M5 M4 B9 F9 F9e B9y
     have B9 := B9e
     have M4 := Lib.hid K4e.out.own
     go_upto_region 10 with fail
     refine wp_region_st 10 Nothing [Is (.slice A4 n4 c4), Is (.pointer (some ⟨g7, 0, none⟩)), Is (.agg yn.cells.toArray), Is (.agg yn.cells.toArray), Is (.pointer (some ⟨g7, 5, none⟩)), Is (.string v5), Is (.pointer (some ⟨g7, 6, none⟩)), Is (.bool c.absent), Is (.agg YC.toArray), fun x W => ∃ g, x = .slice (some ⟨g, 0, none⟩) 1 1 ∧ Blk W g 55 YC.toArray] [] (fun _ => True) (fun _ _ => false) (by kernel_rfl) (by kernel_rfl) (by kernel_rfl) (by kernel_rfl) ⟨Is.stable _, Is.stable _, Is.stable _, Is.stable _, Is.stable _, Is.stable _, Is.stable _, Is.stable _, Is.stable _, fun _ _ _ _ hf ⟨g, h, b⟩ => ⟨g, h, b.fr hf (fun x => x)⟩, trivial⟩ trivial (fun _ _ _ _ h => h) trivial ?_ ?_
     ·refine ⟨fun u w' d hf hR k1 k0 kM => ?_, fun u w' d hf hR k1 k0 kM => ?_, fun u w' d hf hR k1 k0 kM => ?_, fun u w' d hf hR k1 k0 kM => ?_, fun u w' d hf hR k1 k0 kM => ?_, fun u w' d hf hR k1 k0 kM => ?_, fun u w' d hf hR k1 k0 kM => ?_, fun u w' d hf hR k1 k0 kM => ?_, fun u w' d hf hR k1 k0 kM => ?_, fun u w' d hf hR k1 k0 kM => ?_, trivial⟩
      all_goals simp only [List.take_succ_cons, List.take_zero, List.map_cons, List.map_nil, puts, Act.put, List.setIfInBounds_toArray, List.set_cons_zero, List.set_cons_succ, Nat.reduceAdd, Nat.zero_add]
      ·clear hR k1 k0 kM
       refine .inl ⟨by kernel_rfl, ?_⟩
       go_simp
       exact ⟨_, rfl, Fr.refl _ _, rfl, trivial⟩
      ·clear hR k1 k0 kM
       refine .inl ⟨by kernel_rfl, ?_⟩
       go_simp
       exact ⟨_, rfl, Fr.refl _ _, rfl, trivial⟩
      ·have h1 : u 1 = _ := hR 1 (by kernel_rfl)
       clear hR k1 k0 kM
       simp only [h1]
       refine .inl ⟨by kernel_rfl, ?_⟩
       exact wp_load_add _ _ rfl ⟨g7, 0, none⟩ rfl yn.cells _ (fun j x hx => by rw [Addr.add_mid, Nat.zero_add]; exact YN.out _ (B9.out.fr hf (fun x => x)) j x hx) Tryz.underlying57 rfl infoN ⟨_, rfl, Fr.refl _ _, rfl, trivial⟩
      ·have h2 : u 2 = _ := hR 2 (by kernel_rfl)
       clear hR k1 k0 kM
       simp only [h2]
       refine .inl ⟨by kernel_rfl, ?_⟩
       go_simp
       refine (To4_any yn _).mono ?_
       rintro e w4 ⟨rfl, f4⟩
       exact ⟨_, rfl, f4.weak, rfl, trivial⟩
      ·clear hR k1 k0 kM
       refine .inl ⟨by kernel_rfl, ?_⟩
       go_simp
       exact ⟨_, rfl, Fr.refl _ _, rfl, trivial⟩
      ·have h4 : u 4 = _ := hR 4 (by kernel_rfl)
       clear hR k1 k0 kM
       simp only [h4]
       refine .inl ⟨by kernel_rfl, ?_⟩
       have hc : w'.cell? ⟨g7, 5, none⟩ = some (.string v5) := (B9.out.fr hf (fun x => x)).cell 5
       go_simp
       exact ⟨_, rfl, Fr.refl _ _, rfl, trivial⟩
      ·clear hR k1 k0 kM
       refine .inl ⟨by kernel_rfl, ?_⟩
       go_simp
       exact ⟨_, rfl, Fr.refl _ _, rfl, trivial⟩
      ·have h6 : u 6 = _ := hR 6 (by kernel_rfl)
       clear hR k1 k0 kM
       simp only [h6]
       refine .inl ⟨by kernel_rfl, ?_⟩
       have hc : w'.cell? ⟨g7, 6, none⟩ = some (.bool c.absent) := (B9.out.fr hf (fun x => x)).cell 6
       go_simp
       exact ⟨_, rfl, Fr.refl _ _, rfl, trivial⟩
      ·have h3 : u 3 = _ := hR 3 (by kernel_rfl)
       have h5 : u 5 = _ := hR 5 (by kernel_rfl)
       have h7 : u 7 = _ := hR 7 (by kernel_rfl)
       clear hR k1 k0 kM
       simp only [h3, h5, h7]
       refine .inl ⟨by kernel_rfl, ?_⟩
       exact wp_builtA 55 _ rfl YC.toArray _ (by simp only [List.map_toArray, List.map_cons, List.map_nil]; rfl) BCh.out ⟨_, rfl, Fr.refl _ _, rfl, trivial⟩
      ·have h8 : u 8 = _ := hR 8 (by kernel_rfl)
       clear hR k1 k0 kM
       simp only [h8]
       refine .inl ⟨by kernel_rfl, ?_⟩
       refine wp_buildSlice 49 55 1 #[(0, .tmp 64)] rfl YC.toArray ih zeroC Tryz.underlying49 hih hzh gh1.out gh2.out ?_ ?_
       ·simp only [List.map_toArray, List.map_cons, List.map_nil]
        exact gh3.out
       ·exact ⟨_, rfl, (Fr.refl _ _).alloc _, ⟨w'.heap.size, rfl, Blk.new _ _ _⟩, trivial⟩
     ·intro u w' hf hR kM
      have k0 : u 0 = _ := hR 0 (by omega)
      obtain ⟨g9, k9, b9⟩ : ∃ g, u 9 = .slice (some ⟨g, 0, none⟩) 1 1 ∧ Blk w' g 55 YC.toArray := hR 9 (by omega)
      clear hR kM
      simp only [List.take_succ_cons, List.take_zero, List.map_cons, List.map_nil, puts, Act.put, List.setIfInBounds_toArray, List.set_cons_zero, List.set_cons_succ, List.drop_succ_cons, List.drop_zero, Nat.reduceAdd, Nat.zero_add, k0, k9]
      have BB := Lib.hid b9
      have M4x := Lib.hid (own_fr M4.out hf (fun _ _ x => x))
      have K4x := Lib.hid (K4e.out.behind hf)
      have K5x := Lib.hid (K5e.out.behind hf)
      have YOL : Hid (∀ u ∈ YC, u.oneCell' = true) := fun u hu => YO.out u (by simpa using hu)
      have YLL : Hid (YC.length = 1 * 7) := by have h := YL.out; rw [List.size_toArray] at h; exact h
      clear hf k0 k9 b9 B9 B9e
      refine wpList_app _ rfl _ _ 49 rfl 55 ih zeroC 7 80 Tryz.underlying49 hih hzh hh1 hh2 rfl (by decide) _ _ _ rfl M4x.out (fun _ => True) (some ⟨g9, 0, none⟩) 1 1 YC rfl ⟨YLL.out, fun _ => ⟨_, rfl, trivial, fun j x hx => by rw [Addr.add_mid, Nat.zero_add, BB.out.cell, List.getElem?_toArray]; exact hx⟩⟩ YOL.out (by omega) (by decide) ?_
      intro v4' wf hG
      have K4f : Hid (Grew 55 7 w (.slice none 0 0) wf v4' (k + 1) (((xs.take (k + 1)).map CV.cut).flatMap CV.cells)) := by
       have h := K4x.out.trans hG
       simp only [Hid]
       rw [HT.out, HY.out, HYC.out]
       exact h
      have K5f : Hid (Grew 59 7 w (.slice none 0 0) wf v5' (k + 1) (((xs.take (k + 1)).map CV.cut).flatMap CV.cells)) := K5x.out.move hG.fr (fun i hi e => own_types K5x.out.own M4x.out (by decide) i hi e) K4f.out.fr0
      clear hG K4x K5x M4x K4e K5e
      go_wp2
      go_roundw
      case rel => exact ⟨k + 1, by omega, by go_num, K4f.out, K5f.out⟩
      case measure => simp [intOf]; omega
  ·have hkn : k = min n 24 := by omega
   have hfin : ¬ ((k : Int) < (n : Int) ∧ (k : Int) < 24) := by omega
   by_cases hI : (k : Int) < (n : Int)
   ·have h24 : decide ((k : Int) < 24) = false := decide_eq_false (by omega)
    have h24' : ¬ k < 24 := by omega
    have hIn : k < n := by omega
    go_wp2
    go_ret2
    exact ⟨.slice A4 n4 c4, .slice A5 n5 c5, rfl, by rw [← hkn]; first | exact K4.out | (rw [← List.map_take]; exact K4.out), by rw [← hkn]; first | exact K5.out | (rw [← List.map_take]; exact K5.out)⟩
   ·have hI2 : decide ((k : Int) < (n : Int)) = false := decide_eq_false hI
    have hI3 : ¬ k < n := by omega
    go_wp2
    go_ret2
    exact ⟨.slice A4 n4 c4, .slice A5 n5 c5, rfl, by rw [← hkn]; first | exact K4.out | (rw [← List.map_take]; exact K4.out), by rw [← hkn]; first | exact K5.out | (rw [← List.map_take]; exact K5.out)⟩
theorem zvNames (w : World) : (zeroValue 95).run Tryz.prog w = .ok (.slice none 0 0) w := by kernel_rfl
theorem Fr.grown0 {w w' : World} (h : Fr Nothing w w') : w.grownBy w' none := ⟨h.os, h.tape, h.output, h.size, fun k hk _ => h.block k hk (fun x => x)⟩
def TrueNew (w : World) (e : Ending) (w' : World) : Prop := e = .returned (.bool true) ∧ Fr Nothing w w'
end Go.Proofs.YtpnchdgplpdefaaGreatDoor
