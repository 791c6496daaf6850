/- LogtreeNil: the walk (written by genP.py). -/
import Derived.Test.YtkaghbpdnmigmaaDoorLtN
namespace Go.Proofs.YtkaghbpdnmigmaaDoor
open Go.RowKit

theorem wp_buildTo {P : Program} {op : Oper} {a : Act} {w : World} {K : Act → World → Prop} {Q : Exit → Act → World → Prop} (t : TypeId) (parts : Array (Nat × Operand)) (ho : op.op = .build t parts) (cells : Array Value)
    (hf : P.built t (parts.map fun (i, x) => (i, a.eval x)).toList = some cells) (h : K (a.put op.dst (.agg cells)) w) : op.wp P a w K Q :=
  wp_build t parts ho (by rw [hf]; rfl) (by rw [hf]; exact h)

theorem wp_build0 {P : Program} {op : Oper} {a : Act} {w : World} {K : Act → World → Prop} {Q : Exit → Act → World → Prop} (t : TypeId) (ho : op.op = .build t #[]) (cells : Array Value)
    (hf : P.built t [] = some cells) (h : K (a.put op.dst (.agg cells)) w) : op.wp P a w K Q := wp_buildTo t #[] ho cells (by simpa using hf) h

def IsPtr (v : Value) (_ : World) : Prop := ∃ g, v = .pointer (some ⟨g, 0, none⟩)

set_option maxRecDepth 100000 in
set_option maxHeartbeats 4000000 in
theorem Nil_any (d : List UInt8) (hd : d.length = 32) (a b : Int) (w : World) (hT : ShaTab w) :
    Calls Tryd.prog 11 #[digV d, .int .i64 a, .int .i64 b] w (Same' w (.bool true)) := by
  have HH := Lib.hid hT
  have CK : Hid (∀ w', Fr Nothing w w' → Calls Tryd.prog 15 #[] w' (Same' w' (.bool true))) := fun w' hf => known_any w' (HH.out.fr0 hf)
  have HDV : Hid ((Tryd.prog.info? 23).map (·.size) = some (digC d).length) := by rw [digC, List.length_map, hd]; exact info32
  have q0 : Hid (∀ w : World, (binOp .eql 24 (.agg zero32c) (.agg zero32c)).run Tryd.prog w = .ok (.bool true) w) := by
    intro w
    have h := run_eqD w _ Tryd.underlying24 (List.replicate 32 0) (List.replicate 32 0) rfl rfl
    rw [← zero_dig] at h
    exact h
  obtain ⟨zl, hzl⟩ : ∃ zl : List Value, Hid (Value.agg zl.toArray = .agg zero32c) ∧ zl.toArray = zero32c := ⟨zero32c.toList, by simp [Hid], by simp⟩
  have hzz := hzl.2
  replace hzl := hzl.1
  have HZ : Hid ((Tryd.prog.info? 24).map (·.size) = some zl.length) := by
    have : zl.length = zero32c.size := by rw [← hzz]; simp
    simp only [Hid]
    rw [this]
    exact infoZ
  have CZ : Hid (Tryd.prog.built 24 [] = some zero32c) := built24
  have CL : Hid (∀ w', Calls Tryd.prog 31 #[.pointer none, .int .i64 a] w' (Same' w' (.tuple #[.agg zero32c, .int .i64 1]))) := fun w' => Leaf_nil a w'
  have CR : Hid (∀ w', Calls Tryd.prog 32 #[.pointer none, .int .i64 a] w' (Same' w' (.tuple #[.agg zero32c, .int .i64 1]))) := fun w' => Root_nil a w'
  have Z1 := Lib.hid infoZ
  have Z2 := Lib.hid zero_one
  have ZV : Hid (∀ w, (zeroValue 24).run Tryd.prog w = .ok (.agg zero32c) w) := zvD
  clear hT
  unfold digV at *
  simp only [show ∀ l : List UInt8, l.map bvI = digC l from fun _ => rfl] at *
  generalize digC d = DV at *
  generalize zero32c = zc at *
  go_enter Tryd.func11, Tryd.ntmps11
  go_wp2_with (refine wpList_boxBlk rfl 23 (.tmp 0) rfl _ rfl ?_)
  intro w1 n1
  have B1 : Hid (Blk w1 w.heap.size 23 DV.toArray) := n1.blk
  have F1 := Lib.hid n1.fr
  clear n1
  generalize hg3 : w.heap.size = g3 at *
  go_wp2_with fail
  refine (CL.out _).mono ?_
  rintro e w2 ⟨rfl, f2⟩
  have B2 := Lib.hid (B1.out.fr f2 (fun x => x))
  have F2 := Lib.hid (F1.out.trans f2)
  clear f2 B1 F1
  go_wp2_with (refine wpList_allocBlk rfl 24 rfl (.agg zc) ZV.out zc rfl ?_)
  intro w3 n3
  have B3 := Lib.hid (B2.out.fr n3.fr (fun x => x))
  have F3 := Lib.hid (F2.out.trans n3.fr)
  have A3 := Lib.hid n3.blk
  have z3 : Hid (w.heap.size ≤ w2.heap.size ∧ g3 < w2.heap.size) := ⟨F2.out.size, B2.out.lt⟩
  clear n3 B2 F2
  generalize w2.heap.size = g8 at *
  go_wp2_with (refine wpList_storeBlk rfl 24 (.tmp 8) _ rfl g8 zc rfl rfl _ _ A3.out Z1.out rfl Z2.out ?_)
  intro w4 b4 f4
  have A4 := Lib.hid b4
  have B4 := Lib.hid (B3.out.fr f4 (fun e => by have e' : g3 = g8 := e; have := z3.out; omega))
  have F4 := Lib.hid (F3.out.then_ f4 (fun i hi e => by have e' : i = g8 := e; have := z3.out; omega))
  clear b4 f4 A3 B3 F3
  go_wp2_with fail
  refine (CR.out _).mono ?_
  rintro e w5 ⟨rfl, f5⟩
  have A5 := Lib.hid (A4.out.fr f5 (fun x => x))
  have B5 := Lib.hid (B4.out.fr f5 (fun x => x))
  have F5 := Lib.hid (F4.out.trans f5)
  clear f5 A4 B4 F4
  go_wp2_with (refine wpList_allocBlk rfl 24 rfl (.agg zc) ZV.out zc rfl ?_)
  intro w6 n6
  have A6 := Lib.hid (A5.out.fr n6.fr (fun x => x))
  have B6 := Lib.hid (B5.out.fr n6.fr (fun x => x))
  have F6 := Lib.hid (F5.out.trans n6.fr)
  have C6 := Lib.hid n6.blk
  have z6 : Hid (w.heap.size ≤ w5.heap.size ∧ g3 < w5.heap.size ∧ g8 < w5.heap.size) := ⟨F5.out.size, B5.out.lt, A5.out.lt⟩
  clear n6 A5 B5 F5
  generalize w5.heap.size = g10 at *
  go_wp2_with (refine wpList_storeBlk rfl 24 (.tmp 10) _ rfl g10 zc rfl rfl _ _ C6.out Z1.out rfl Z2.out ?_)
  intro w7 b7 f7
  have C7 := Lib.hid b7
  have A7 := Lib.hid (A6.out.fr f7 (fun e => by have e' : g8 = g10 := e; have := z6.out; omega))
  have B7 := Lib.hid (B6.out.fr f7 (fun e => by have e' : g3 = g10 := e; have := z6.out; omega))
  have F7 := Lib.hid (F6.out.then_ f7 (fun i hi e => by have e' : i = g10 := e; have := z6.out; omega))
  clear b7 f7 A6 B6 C6 F6
  go_wp2_with fail
  refine (Include_nil a b _).mono ?_
  rintro e w8 ⟨rfl, f8⟩
  have A8 := Lib.hid (A7.out.fr f8 (fun x => x))
  have B8' := Lib.hid (B7.out.fr f8 (fun x => x))
  have C8 := Lib.hid (C7.out.fr f8 (fun x => x))
  have F8 := Lib.hid (F7.out.trans f8)
  clear f8 A7 B7 C7 F7
  go_wp2_with fail
  refine (Extend_nil a b _).mono ?_
  rintro e w9 ⟨rfl, f9⟩
  have B8 : Hid (Blk w9 g8 24 zl.toArray) := by simp only [Hid]; rw [hzz]; exact A8.out.fr f9 (fun x => x)
  have B3 := Lib.hid (B8'.out.fr f9 (fun x => x))
  have B10 : Hid (Blk w9 g10 24 zl.toArray) := by simp only [Hid]; rw [hzz]; exact C8.out.fr f9 (fun x => x)
  have F9 := Lib.hid (F8.out.trans f9)
  clear f9 A8 B8' C8 F8 hzz
  go_upto_region 6 with fail
  simp only [List.append_eq, List.cons_append, List.nil_append]
  clear CL CR ZV Z1 Z2 z3 z6
  refine wp_region_sq 73 Nothing [Is (.bool true), Is (.bool true), Is (.pointer none), Is (.agg DV.toArray), Is (.int .i64 1), Is (.bool true), Is (.bool true), Is (.bool true), Is (.pointer none), Is (.int .i64 0), Is (.bool true), Is (.bool true), Is (.bool true), Is (.agg zc), Is (.agg zc), Is (.bool true), Is (.bool true), Is (.bool true), Is (.int .i64 1), Is (.bool true), Is (.bool true), Is (.bool true), Is (.agg zc), Is (.agg zc), Is (.bool true), Is (.bool true), Is (.bool true), Is (.int .i64 1), Is (.bool true), Is (.bool true), Is (.bool true), Is (.slice none 0 0), Is (.int .i64 0), Is (.slice none 0 0), Is (.int .i64 0), Is (.int .i64 0), Is (.bool true), Is (.bool true), Is (.bool true), Is (.int .i64 1), Is (.bool true), Is (.bool true), Is (.bool true), Is (.int .i64 1), Is (.bool true), Is (.bool true), Is (.bool true), Is (.pointer none), Is (.int .i64 a), Is (.int .i64 1), Is (.bool true), Is (.bool true), Is (.bool true), Is (.pointer none), Is (.pointer none), Is (.bool true), Is (.bool true), Is (.bool true), Is (.pointer none), Is (.bool true), Is (.bool true), Is (.bool true), Is (.pointer none), IsPtr, Is (.bool false), Is (.bool true), Is (.bool true), Is (.bool true), IsPtr, Is (.pointer none), Is (.bool false), Is (.bool true), Is (.bool true)] [] (fun _ => True) (fun _ _ => false) (by kernel_rfl) (by kernel_rfl) (by kernel_rfl) ⟨Is.stable _, Is.stable _, Is.stable _, Is.stable _, Is.stable _, Is.stable _, Is.stable _, Is.stable _, Is.stable _, Is.stable _, Is.stable _, Is.stable _, Is.stable _, Is.stable _, Is.stable _, Is.stable _, Is.stable _, Is.stable _, Is.stable _, Is.stable _, Is.stable _, Is.stable _, Is.stable _, Is.stable _, Is.stable _, Is.stable _, Is.stable _, Is.stable _, Is.stable _, Is.stable _, Is.stable _, Is.stable _, Is.stable _, Is.stable _, Is.stable _, Is.stable _, Is.stable _, Is.stable _, Is.stable _, Is.stable _, Is.stable _, Is.stable _, Is.stable _, Is.stable _, Is.stable _, Is.stable _, Is.stable _, Is.stable _, Is.stable _, Is.stable _, Is.stable _, Is.stable _, Is.stable _, Is.stable _, Is.stable _, Is.stable _, Is.stable _, Is.stable _, Is.stable _, Is.stable _, Is.stable _, Is.stable _, Is.stable _, fun _ _ _ _ _ h => h, Is.stable _, Is.stable _, Is.stable _, Is.stable _, fun _ _ _ _ _ h => h, Is.stable _, Is.stable _, Is.stable _, Is.stable _, trivial⟩ trivial (fun _ _ _ _ h => h) trivial ?_ ?_
  · refine ⟨fun u w' d hf hR k1 k0 kM => ?_, fun u w' d hf hR k1 k0 kM => ?_, fun u w' d hf hR k1 k0 kM => ?_, fun u w' d hf hR k1 k0 kM => ?_, fun u w' d hf hR k1 k0 kM => ?_, fun u w' d hf hR k1 k0 kM => ?_, fun u w' d hf hR k1 k0 kM => ?_, fun u w' d hf hR k1 k0 kM => ?_, fun u w' d hf hR k1 k0 kM => ?_, fun u w' d hf hR k1 k0 kM => ?_, fun u w' d hf hR k1 k0 kM => ?_, fun u w' d hf hR k1 k0 kM => ?_, fun u w' d hf hR k1 k0 kM => ?_, fun u w' d hf hR k1 k0 kM => ?_, fun u w' d hf hR k1 k0 kM => ?_, fun u w' d hf hR k1 k0 kM => ?_, fun u w' d hf hR k1 k0 kM => ?_, fun u w' d hf hR k1 k0 kM => ?_, fun u w' d hf hR k1 k0 kM => ?_, fun u w' d hf hR k1 k0 kM => ?_, fun u w' d hf hR k1 k0 kM => ?_, fun u w' d hf hR k1 k0 kM => ?_, fun u w' d hf hR k1 k0 kM => ?_, fun u w' d hf hR k1 k0 kM => ?_, fun u w' d hf hR k1 k0 kM => ?_, fun u w' d hf hR k1 k0 kM => ?_, fun u w' d hf hR k1 k0 kM => ?_, fun u w' d hf hR k1 k0 kM => ?_, fun u w' d hf hR k1 k0 kM => ?_, fun u w' d hf hR k1 k0 kM => ?_, fun u w' d hf hR k1 k0 kM => ?_, fun u w' d hf hR k1 k0 kM => ?_, fun u w' d hf hR k1 k0 kM => ?_, fun u w' d hf hR k1 k0 kM => ?_, fun u w' d hf hR k1 k0 kM => ?_, fun u w' d hf hR k1 k0 kM => ?_, fun u w' d hf hR k1 k0 kM => ?_, fun u w' d hf hR k1 k0 kM => ?_, fun u w' d hf hR k1 k0 kM => ?_, fun u w' d hf hR k1 k0 kM => ?_, fun u w' d hf hR k1 k0 kM => ?_, fun u w' d hf hR k1 k0 kM => ?_, fun u w' d hf hR k1 k0 kM => ?_, fun u w' d hf hR k1 k0 kM => ?_, fun u w' d hf hR k1 k0 kM => ?_, fun u w' d hf hR k1 k0 kM => ?_, fun u w' d hf hR k1 k0 kM => ?_, fun u w' d hf hR k1 k0 kM => ?_, fun u w' d hf hR k1 k0 kM => ?_, fun u w' d hf hR k1 k0 kM => ?_, fun u w' d hf hR k1 k0 kM => ?_, fun u w' d hf hR k1 k0 kM => ?_, fun u w' d hf hR k1 k0 kM => ?_, fun u w' d hf hR k1 k0 kM => ?_, fun u w' d hf hR k1 k0 kM => ?_, fun u w' d hf hR k1 k0 kM => ?_, fun u w' d hf hR k1 k0 kM => ?_, fun u w' d hf hR k1 k0 kM => ?_, fun u w' d hf hR k1 k0 kM => ?_, fun u w' d hf hR k1 k0 kM => ?_, fun u w' d hf hR k1 k0 kM => ?_, fun u w' d hf hR k1 k0 kM => ?_, fun u w' d hf hR k1 k0 kM => ?_, fun u w' d hf hR k1 k0 kM => ?_, fun u w' d hf hR k1 k0 kM => ?_, fun u w' d hf hR k1 k0 kM => ?_, fun u w' d hf hR k1 k0 kM => ?_, fun u w' d hf hR k1 k0 kM => ?_, fun u w' d hf hR k1 k0 kM => ?_, fun u w' d hf hR k1 k0 kM => ?_, fun u w' d hf hR k1 k0 kM => ?_, fun u w' d hf hR k1 k0 kM => ?_, fun u w' d hf hR k1 k0 kM => ?_, trivial⟩
    all_goals simp only [List.take_succ_cons, List.take_zero, List.map_cons, List.map_nil, puts, Act.put, List.setIfInBounds_toArray, List.set_cons_zero, List.set_cons_succ, Nat.reduceAdd, Nat.zero_add]
    · clear hR k1 k0 kM
      refine .inl ⟨by kernel_rfl, ?_⟩
      go_simp
      refine (CK.out _ (F9.out.trans hf)).mono ?_
      rintro e w4 ⟨rfl, f4⟩
      exact ⟨_, rfl, f4.weak, rfl, trivial⟩
    · have h0 : u 0 = _ := hR 0 (by kernel_rfl)
      clear hR k1 k0 kM
      simp only [h0]
      refine .inl ⟨by kernel_rfl, ?_⟩
      go_simp
      exact ⟨_, rfl, Fr.refl _ _, rfl, trivial⟩
    · have h1 : u 1 = _ := hR 1 (by kernel_rfl)
      clear hR k1 k0 kM
      simp only [h1]
      refine .inl ⟨by kernel_rfl, ?_⟩
      go_simp
      exact ⟨_, rfl, Fr.refl _ _, rfl, trivial⟩
    · have h1 : u 1 = _ := hR 1 (by kernel_rfl)
      clear hR k1 k0 kM
      simp only [h1]
      refine .inl ⟨by kernel_rfl, ?_⟩
      exact wp_load_mid _ _ rfl g3 0 rfl DV _ (range_blk (B3.out.fr hf (fun x => x))) Tryd.underlying23 rfl HDV.out ⟨_, rfl, Fr.refl _ _, rfl, trivial⟩
    · have h2 : u 2 = _ := hR 2 (by kernel_rfl)
      have h3 : u 3 = _ := hR 3 (by kernel_rfl)
      have h1 : u 1 = _ := hR 1 (by kernel_rfl)
      clear hR k1 k0 kM
      simp only [h2, h3, h1]
      refine .inl ⟨by kernel_rfl, ?_⟩
      go_simp
      refine (Append_nil _ _).mono ?_
      rintro e w4 ⟨rfl, f4⟩
      exact ⟨_, rfl, f4.weak, rfl, trivial⟩
    · have h4 : u 4 = _ := hR 4 (by kernel_rfl)
      have h1 : u 1 = _ := hR 1 (by kernel_rfl)
      clear hR k1 k0 kM
      simp only [h4, h1]
      refine .inl ⟨by kernel_rfl, ?_⟩
      go_simp
      exact ⟨_, rfl, Fr.refl _ _, rfl, trivial⟩
    · have h1 : u 1 = _ := hR 1 (by kernel_rfl)
      have h5 : u 5 = _ := hR 5 (by kernel_rfl)
      clear hR k1 k0 kM
      simp only [h1, h5]
      refine .inl ⟨by kernel_rfl, ?_⟩
      go_simp
      exact ⟨_, rfl, Fr.refl _ _, rfl, trivial⟩
    · have h6 : u 6 = _ := hR 6 (by kernel_rfl)
      clear hR k1 k0 kM
      simp only [h6]
      refine .inl ⟨by kernel_rfl, ?_⟩
      go_simp
      exact ⟨_, rfl, Fr.refl _ _, rfl, trivial⟩
    · have h7 : u 7 = _ := hR 7 (by kernel_rfl)
      clear hR k1 k0 kM
      simp only [h7]
      refine .inl ⟨by kernel_rfl, ?_⟩
      go_simp
      exact ⟨_, rfl, Fr.refl _ _, rfl, trivial⟩
    · have h8 : u 8 = _ := hR 8 (by kernel_rfl)
      have h7 : u 7 = _ := hR 7 (by kernel_rfl)
      clear hR k1 k0 kM
      simp only [h8, h7]
      refine .inl ⟨by kernel_rfl, ?_⟩
      go_simp
      refine (Len_nil _).mono ?_
      rintro e w4 ⟨rfl, f4⟩
      exact ⟨_, rfl, f4.weak, rfl, trivial⟩
    · have h9 : u 9 = _ := hR 9 (by kernel_rfl)
      have h7 : u 7 = _ := hR 7 (by kernel_rfl)
      clear hR k1 k0 kM
      simp only [h9, h7]
      refine .inl ⟨by kernel_rfl, ?_⟩
      go_simp
      exact ⟨_, rfl, Fr.refl _ _, rfl, trivial⟩
    · have h7 : u 7 = _ := hR 7 (by kernel_rfl)
      have h10 : u 10 = _ := hR 10 (by kernel_rfl)
      clear hR k1 k0 kM
      simp only [h7, h10]
      refine .inl ⟨by kernel_rfl, ?_⟩
      go_simp
      exact ⟨_, rfl, Fr.refl _ _, rfl, trivial⟩
    · have h11 : u 11 = _ := hR 11 (by kernel_rfl)
      clear hR k1 k0 kM
      simp only [h11]
      refine .inl ⟨by kernel_rfl, ?_⟩
      go_simp
      exact ⟨_, rfl, Fr.refl _ _, rfl, trivial⟩
    · have h12 : u 12 = _ := hR 12 (by kernel_rfl)
      clear hR k1 k0 kM
      simp only [h12]
      refine .inl ⟨by kernel_rfl, ?_⟩
      exact wp_load_mid _ _ rfl g8 0 rfl zl _ (range_blk (B8.out.fr hf (fun x => x))) Tryd.underlying24 rfl HZ.out ⟨_, rfl, Fr.refl _ _, hzl.out, trivial⟩
    · have h12 : u 12 = _ := hR 12 (by kernel_rfl)
      clear hR k1 k0 kM
      simp only [h12]
      refine .inl ⟨by kernel_rfl, ?_⟩
      exact wp_build0 24 rfl zc CZ.out ⟨_, rfl, Fr.refl _ _, rfl, trivial⟩
    · have h13 : u 13 = _ := hR 13 (by kernel_rfl)
      have h14 : u 14 = _ := hR 14 (by kernel_rfl)
      have h12 : u 12 = _ := hR 12 (by kernel_rfl)
      clear hR k1 k0 kM
      simp only [h13, h14, h12]
      refine .inl ⟨by kernel_rfl, ?_⟩
      exact wp_binAgg _ _ _ _ _ rfl _ _ rfl rfl Tryd.eqGuardType24 _ (q0.out _) ⟨_, rfl, Fr.refl _ _, rfl, trivial⟩
    · have h12 : u 12 = _ := hR 12 (by kernel_rfl)
      have h15 : u 15 = _ := hR 15 (by kernel_rfl)
      clear hR k1 k0 kM
      simp only [h12, h15]
      refine .inl ⟨by kernel_rfl, ?_⟩
      go_simp
      exact ⟨_, rfl, Fr.refl _ _, rfl, trivial⟩
    · have h16 : u 16 = _ := hR 16 (by kernel_rfl)
      clear hR k1 k0 kM
      simp only [h16]
      refine .inl ⟨by kernel_rfl, ?_⟩
      go_simp
      exact ⟨_, rfl, Fr.refl _ _, rfl, trivial⟩
    · have h17 : u 17 = _ := hR 17 (by kernel_rfl)
      clear hR k1 k0 kM
      simp only [h17]
      refine .inl ⟨by kernel_rfl, ?_⟩
      go_simp
      exact ⟨_, rfl, Fr.refl _ _, rfl, trivial⟩
    · have h18 : u 18 = _ := hR 18 (by kernel_rfl)
      have h17 : u 17 = _ := hR 17 (by kernel_rfl)
      clear hR k1 k0 kM
      simp only [h18, h17]
      refine .inl ⟨by kernel_rfl, ?_⟩
      go_simp
      exact ⟨_, rfl, Fr.refl _ _, rfl, trivial⟩
    · have h17 : u 17 = _ := hR 17 (by kernel_rfl)
      have h19 : u 19 = _ := hR 19 (by kernel_rfl)
      clear hR k1 k0 kM
      simp only [h17, h19]
      refine .inl ⟨by kernel_rfl, ?_⟩
      go_simp
      exact ⟨_, rfl, Fr.refl _ _, rfl, trivial⟩
    · have h20 : u 20 = _ := hR 20 (by kernel_rfl)
      clear hR k1 k0 kM
      simp only [h20]
      refine .inl ⟨by kernel_rfl, ?_⟩
      go_simp
      exact ⟨_, rfl, Fr.refl _ _, rfl, trivial⟩
    · have h21 : u 21 = _ := hR 21 (by kernel_rfl)
      clear hR k1 k0 kM
      simp only [h21]
      refine .inl ⟨by kernel_rfl, ?_⟩
      exact wp_load_mid _ _ rfl g10 0 rfl zl _ (range_blk (B10.out.fr hf (fun x => x))) Tryd.underlying24 rfl HZ.out ⟨_, rfl, Fr.refl _ _, hzl.out, trivial⟩
    · have h21 : u 21 = _ := hR 21 (by kernel_rfl)
      clear hR k1 k0 kM
      simp only [h21]
      refine .inl ⟨by kernel_rfl, ?_⟩
      exact wp_build0 24 rfl zc CZ.out ⟨_, rfl, Fr.refl _ _, rfl, trivial⟩
    · have h22 : u 22 = _ := hR 22 (by kernel_rfl)
      have h23 : u 23 = _ := hR 23 (by kernel_rfl)
      have h21 : u 21 = _ := hR 21 (by kernel_rfl)
      clear hR k1 k0 kM
      simp only [h22, h23, h21]
      refine .inl ⟨by kernel_rfl, ?_⟩
      exact wp_binAgg _ _ _ _ _ rfl _ _ rfl rfl Tryd.eqGuardType24 _ (q0.out _) ⟨_, rfl, Fr.refl _ _, rfl, trivial⟩
    · have h21 : u 21 = _ := hR 21 (by kernel_rfl)
      have h24 : u 24 = _ := hR 24 (by kernel_rfl)
      clear hR k1 k0 kM
      simp only [h21, h24]
      refine .inl ⟨by kernel_rfl, ?_⟩
      go_simp
      exact ⟨_, rfl, Fr.refl _ _, rfl, trivial⟩
    · have h25 : u 25 = _ := hR 25 (by kernel_rfl)
      clear hR k1 k0 kM
      simp only [h25]
      refine .inl ⟨by kernel_rfl, ?_⟩
      go_simp
      exact ⟨_, rfl, Fr.refl _ _, rfl, trivial⟩
    · have h26 : u 26 = _ := hR 26 (by kernel_rfl)
      clear hR k1 k0 kM
      simp only [h26]
      refine .inl ⟨by kernel_rfl, ?_⟩
      go_simp
      exact ⟨_, rfl, Fr.refl _ _, rfl, trivial⟩
    · have h27 : u 27 = _ := hR 27 (by kernel_rfl)
      have h26 : u 26 = _ := hR 26 (by kernel_rfl)
      clear hR k1 k0 kM
      simp only [h27, h26]
      refine .inl ⟨by kernel_rfl, ?_⟩
      go_simp
      exact ⟨_, rfl, Fr.refl _ _, rfl, trivial⟩
    · have h26 : u 26 = _ := hR 26 (by kernel_rfl)
      have h28 : u 28 = _ := hR 28 (by kernel_rfl)
      clear hR k1 k0 kM
      simp only [h26, h28]
      refine .inl ⟨by kernel_rfl, ?_⟩
      go_simp
      exact ⟨_, rfl, Fr.refl _ _, rfl, trivial⟩
    · have h29 : u 29 = _ := hR 29 (by kernel_rfl)
      clear hR k1 k0 kM
      simp only [h29]
      refine .inl ⟨by kernel_rfl, ?_⟩
      go_simp
      exact ⟨_, rfl, Fr.refl _ _, rfl, trivial⟩
    · have h30 : u 30 = _ := hR 30 (by kernel_rfl)
      clear hR k1 k0 kM
      simp only [h30]
      refine .inl ⟨by kernel_rfl, ?_⟩
      go_simp
      exact ⟨_, rfl, Fr.refl _ _, rfl, trivial⟩
    · have h31 : u 31 = _ := hR 31 (by kernel_rfl)
      have h30 : u 30 = _ := hR 30 (by kernel_rfl)
      clear hR k1 k0 kM
      simp only [h31, h30]
      refine .inl ⟨by kernel_rfl, ?_⟩
      go_simp
      exact ⟨_, rfl, Fr.refl _ _, rfl, trivial⟩
    · have h30 : u 30 = _ := hR 30 (by kernel_rfl)
      clear hR k1 k0 kM
      simp only [h30]
      refine .inl ⟨by kernel_rfl, ?_⟩
      go_simp
      exact ⟨_, rfl, Fr.refl _ _, rfl, trivial⟩
    · have h33 : u 33 = _ := hR 33 (by kernel_rfl)
      have h30 : u 30 = _ := hR 30 (by kernel_rfl)
      clear hR k1 k0 kM
      simp only [h33, h30]
      refine .inl ⟨by kernel_rfl, ?_⟩
      go_simp
      exact ⟨_, rfl, Fr.refl _ _, rfl, trivial⟩
    · have h32 : u 32 = _ := hR 32 (by kernel_rfl)
      have h34 : u 34 = _ := hR 34 (by kernel_rfl)
      have h30 : u 30 = _ := hR 30 (by kernel_rfl)
      clear hR k1 k0 kM
      simp only [h32, h34, h30]
      refine .inl ⟨by kernel_rfl, ?_⟩
      go_simp
      exact ⟨_, rfl, Fr.refl _ _, rfl, trivial⟩
    · have h35 : u 35 = _ := hR 35 (by kernel_rfl)
      have h30 : u 30 = _ := hR 30 (by kernel_rfl)
      clear hR k1 k0 kM
      simp only [h35, h30]
      refine .inl ⟨by kernel_rfl, ?_⟩
      go_simp
      exact ⟨_, rfl, Fr.refl _ _, rfl, trivial⟩
    · have h30 : u 30 = _ := hR 30 (by kernel_rfl)
      have h36 : u 36 = _ := hR 36 (by kernel_rfl)
      clear hR k1 k0 kM
      simp only [h30, h36]
      refine .inl ⟨by kernel_rfl, ?_⟩
      go_simp
      exact ⟨_, rfl, Fr.refl _ _, rfl, trivial⟩
    · have h37 : u 37 = _ := hR 37 (by kernel_rfl)
      clear hR k1 k0 kM
      simp only [h37]
      refine .inl ⟨by kernel_rfl, ?_⟩
      go_simp
      exact ⟨_, rfl, Fr.refl _ _, rfl, trivial⟩
    · have h38 : u 38 = _ := hR 38 (by kernel_rfl)
      clear hR k1 k0 kM
      simp only [h38]
      refine .inl ⟨by kernel_rfl, ?_⟩
      go_simp
      exact ⟨_, rfl, Fr.refl _ _, rfl, trivial⟩
    · have h39 : u 39 = _ := hR 39 (by kernel_rfl)
      have h38 : u 38 = _ := hR 38 (by kernel_rfl)
      clear hR k1 k0 kM
      simp only [h39, h38]
      refine .inl ⟨by kernel_rfl, ?_⟩
      go_simp
      exact ⟨_, rfl, Fr.refl _ _, rfl, trivial⟩
    · have h38 : u 38 = _ := hR 38 (by kernel_rfl)
      have h40 : u 40 = _ := hR 40 (by kernel_rfl)
      clear hR k1 k0 kM
      simp only [h38, h40]
      refine .inl ⟨by kernel_rfl, ?_⟩
      go_simp
      exact ⟨_, rfl, Fr.refl _ _, rfl, trivial⟩
    · have h41 : u 41 = _ := hR 41 (by kernel_rfl)
      clear hR k1 k0 kM
      simp only [h41]
      refine .inl ⟨by kernel_rfl, ?_⟩
      go_simp
      exact ⟨_, rfl, Fr.refl _ _, rfl, trivial⟩
    · have h42 : u 42 = _ := hR 42 (by kernel_rfl)
      clear hR k1 k0 kM
      simp only [h42]
      refine .inl ⟨by kernel_rfl, ?_⟩
      go_simp
      exact ⟨_, rfl, Fr.refl _ _, rfl, trivial⟩
    · have h43 : u 43 = _ := hR 43 (by kernel_rfl)
      have h42 : u 42 = _ := hR 42 (by kernel_rfl)
      clear hR k1 k0 kM
      simp only [h43, h42]
      refine .inl ⟨by kernel_rfl, ?_⟩
      go_simp
      exact ⟨_, rfl, Fr.refl _ _, rfl, trivial⟩
    · have h42 : u 42 = _ := hR 42 (by kernel_rfl)
      have h44 : u 44 = _ := hR 44 (by kernel_rfl)
      clear hR k1 k0 kM
      simp only [h42, h44]
      refine .inl ⟨by kernel_rfl, ?_⟩
      go_simp
      exact ⟨_, rfl, Fr.refl _ _, rfl, trivial⟩
    · have h45 : u 45 = _ := hR 45 (by kernel_rfl)
      clear hR k1 k0 kM
      simp only [h45]
      refine .inl ⟨by kernel_rfl, ?_⟩
      go_simp
      exact ⟨_, rfl, Fr.refl _ _, rfl, trivial⟩
    · have h46 : u 46 = _ := hR 46 (by kernel_rfl)
      clear hR k1 k0 kM
      simp only [h46]
      refine .inl ⟨by kernel_rfl, ?_⟩
      go_simp
      exact ⟨_, rfl, Fr.refl _ _, rfl, trivial⟩
    · have h46 : u 46 = _ := hR 46 (by kernel_rfl)
      clear hR k1 k0 kM
      simp only [h46]
      refine .inl ⟨by kernel_rfl, ?_⟩
      go_simp
      exact ⟨_, rfl, Fr.refl _ _, rfl, trivial⟩
    · have h47 : u 47 = _ := hR 47 (by kernel_rfl)
      have h48 : u 48 = _ := hR 48 (by kernel_rfl)
      have h46 : u 46 = _ := hR 46 (by kernel_rfl)
      clear hR k1 k0 kM
      simp only [h47, h48, h46]
      refine .inl ⟨by kernel_rfl, ?_⟩
      go_simp
      refine (Truncate_nil _ _).mono ?_
      rintro e w4 ⟨rfl, f4⟩
      exact ⟨_, rfl, f4.weak, rfl, trivial⟩
    · have h49 : u 49 = _ := hR 49 (by kernel_rfl)
      have h46 : u 46 = _ := hR 46 (by kernel_rfl)
      clear hR k1 k0 kM
      simp only [h49, h46]
      refine .inl ⟨by kernel_rfl, ?_⟩
      go_simp
      exact ⟨_, rfl, Fr.refl _ _, rfl, trivial⟩
    · have h46 : u 46 = _ := hR 46 (by kernel_rfl)
      have h50 : u 50 = _ := hR 50 (by kernel_rfl)
      clear hR k1 k0 kM
      simp only [h46, h50]
      refine .inl ⟨by kernel_rfl, ?_⟩
      go_simp
      exact ⟨_, rfl, Fr.refl _ _, rfl, trivial⟩
    · have h51 : u 51 = _ := hR 51 (by kernel_rfl)
      clear hR k1 k0 kM
      simp only [h51]
      refine .inl ⟨by kernel_rfl, ?_⟩
      go_simp
      exact ⟨_, rfl, Fr.refl _ _, rfl, trivial⟩
    · have h52 : u 52 = _ := hR 52 (by kernel_rfl)
      clear hR k1 k0 kM
      simp only [h52]
      refine .inl ⟨by kernel_rfl, ?_⟩
      go_simp
      exact ⟨_, rfl, Fr.refl _ _, rfl, trivial⟩
    · have h53 : u 53 = _ := hR 53 (by kernel_rfl)
      have h52 : u 52 = _ := hR 52 (by kernel_rfl)
      clear hR k1 k0 kM
      simp only [h53, h52]
      refine .inl ⟨by kernel_rfl, ?_⟩
      go_simp
      refine (Clone_nil _).mono ?_
      rintro e w4 ⟨rfl, f4⟩
      exact ⟨_, rfl, f4.weak, rfl, trivial⟩
    · have h54 : u 54 = _ := hR 54 (by kernel_rfl)
      have h52 : u 52 = _ := hR 52 (by kernel_rfl)
      clear hR k1 k0 kM
      simp only [h54, h52]
      refine .inl ⟨by kernel_rfl, ?_⟩
      go_simp
      exact ⟨_, rfl, Fr.refl _ _, rfl, trivial⟩
    · have h52 : u 52 = _ := hR 52 (by kernel_rfl)
      have h55 : u 55 = _ := hR 55 (by kernel_rfl)
      clear hR k1 k0 kM
      simp only [h52, h55]
      refine .inl ⟨by kernel_rfl, ?_⟩
      go_simp
      exact ⟨_, rfl, Fr.refl _ _, rfl, trivial⟩
    · have h56 : u 56 = _ := hR 56 (by kernel_rfl)
      clear hR k1 k0 kM
      simp only [h56]
      refine .inl ⟨by kernel_rfl, ?_⟩
      go_simp
      exact ⟨_, rfl, Fr.refl _ _, rfl, trivial⟩
    · have h57 : u 57 = _ := hR 57 (by kernel_rfl)
      clear hR k1 k0 kM
      simp only [h57]
      refine .inl ⟨by kernel_rfl, ?_⟩
      go_simp
      exact ⟨_, rfl, Fr.refl _ _, rfl, trivial⟩
    · have h58 : u 58 = _ := hR 58 (by kernel_rfl)
      have h57 : u 57 = _ := hR 57 (by kernel_rfl)
      clear hR k1 k0 kM
      simp only [h58, h57]
      refine .inl ⟨by kernel_rfl, ?_⟩
      go_simp
      refine (Equal_nil _).mono ?_
      rintro e w4 ⟨rfl, f4⟩
      exact ⟨_, rfl, f4.weak, rfl, trivial⟩
    · have h57 : u 57 = _ := hR 57 (by kernel_rfl)
      have h59 : u 59 = _ := hR 59 (by kernel_rfl)
      clear hR k1 k0 kM
      simp only [h57, h59]
      refine .inl ⟨by kernel_rfl, ?_⟩
      go_simp
      exact ⟨_, rfl, Fr.refl _ _, rfl, trivial⟩
    · have h60 : u 60 = _ := hR 60 (by kernel_rfl)
      clear hR k1 k0 kM
      simp only [h60]
      refine .inl ⟨by kernel_rfl, ?_⟩
      go_simp
      exact ⟨_, rfl, Fr.refl _ _, rfl, trivial⟩
    · have h61 : u 61 = _ := hR 61 (by kernel_rfl)
      clear hR k1 k0 kM
      simp only [h61]
      refine .inl ⟨by kernel_rfl, ?_⟩
      go_simp
      exact ⟨_, rfl, Fr.refl _ _, rfl, trivial⟩
    · have h61 : u 61 = _ := hR 61 (by kernel_rfl)
      clear hR k1 k0 kM
      simp only [h61]
      refine .inl ⟨by kernel_rfl, ?_⟩
      go_simp
      refine (New_any _).mono ?_
      rintro e w4 ⟨rfl, rfl⟩
      exact ⟨_, rfl, (Fr.refl _ _).alloc _, ⟨_, rfl⟩, trivial⟩
    · have h62 : u 62 = _ := hR 62 (by kernel_rfl)
      obtain ⟨g63, h63⟩ := hR 63 (by kernel_rfl)
      have h61 : u 61 = _ := hR 61 (by kernel_rfl)
      clear hR k1 k0 kM
      simp only [h62, h63, h61]
      refine .inl ⟨by kernel_rfl, ?_⟩
      go_simp
      refine (Equal_nil_new _ _).mono ?_
      rintro e w4 ⟨rfl, f4⟩
      exact ⟨_, rfl, f4.weak, rfl, trivial⟩
    · have h64 : u 64 = _ := hR 64 (by kernel_rfl)
      have h61 : u 61 = _ := hR 61 (by kernel_rfl)
      clear hR k1 k0 kM
      simp only [h64, h61]
      refine .inl ⟨by kernel_rfl, ?_⟩
      go_simp
      exact ⟨_, rfl, Fr.refl _ _, rfl, trivial⟩
    · have h61 : u 61 = _ := hR 61 (by kernel_rfl)
      have h65 : u 65 = _ := hR 65 (by kernel_rfl)
      clear hR k1 k0 kM
      simp only [h61, h65]
      refine .inl ⟨by kernel_rfl, ?_⟩
      go_simp
      exact ⟨_, rfl, Fr.refl _ _, rfl, trivial⟩
    · have h66 : u 66 = _ := hR 66 (by kernel_rfl)
      clear hR k1 k0 kM
      simp only [h66]
      refine .inl ⟨by kernel_rfl, ?_⟩
      go_simp
      exact ⟨_, rfl, Fr.refl _ _, rfl, trivial⟩
    · have h67 : u 67 = _ := hR 67 (by kernel_rfl)
      clear hR k1 k0 kM
      simp only [h67]
      refine .inl ⟨by kernel_rfl, ?_⟩
      go_simp
      refine (New_any _).mono ?_
      rintro e w4 ⟨rfl, rfl⟩
      exact ⟨_, rfl, (Fr.refl _ _).alloc _, ⟨_, rfl⟩, trivial⟩
    · have h67 : u 67 = _ := hR 67 (by kernel_rfl)
      clear hR k1 k0 kM
      simp only [h67]
      refine .inl ⟨by kernel_rfl, ?_⟩
      go_simp
      exact ⟨_, rfl, Fr.refl _ _, rfl, trivial⟩
    · obtain ⟨g68, h68⟩ := hR 68 (by kernel_rfl)
      have h69 : u 69 = _ := hR 69 (by kernel_rfl)
      have h67 : u 67 = _ := hR 67 (by kernel_rfl)
      clear hR k1 k0 kM
      simp only [h68, h69, h67]
      refine .inl ⟨by kernel_rfl, ?_⟩
      go_simp
      refine (Equal_new_nil _ _).mono ?_
      rintro e w4 ⟨rfl, f4⟩
      exact ⟨_, rfl, f4.weak, rfl, trivial⟩
    · have h70 : u 70 = _ := hR 70 (by kernel_rfl)
      have h67 : u 67 = _ := hR 67 (by kernel_rfl)
      clear hR k1 k0 kM
      simp only [h70, h67]
      refine .inl ⟨by kernel_rfl, ?_⟩
      go_simp
      exact ⟨_, rfl, Fr.refl _ _, rfl, trivial⟩
    · have h67 : u 67 = _ := hR 67 (by kernel_rfl)
      have h71 : u 71 = _ := hR 71 (by kernel_rfl)
      clear hR k1 k0 kM
      simp only [h67, h71]
      refine .inl ⟨by kernel_rfl, ?_⟩
      go_simp
      exact ⟨_, rfl, Fr.refl _ _, rfl, trivial⟩
  · intro u w' hf hR kM
    have h72 : u 72 = _ := hR 72 (by omega)
    clear hR kM
    simp only [List.take_succ_cons, List.take_zero, List.map_cons, List.map_nil, puts, Act.put, List.setIfInBounds_toArray, List.set_cons_zero, List.set_cons_succ, List.drop_succ_cons, List.drop_zero, Nat.reduceAdd, Nat.zero_add, h72]
    have JF := Lib.hid (F9.out.trans hf)
    clear hf
    go_wp2
    go_ret
    exact ⟨rfl, JF.out⟩
end Go.Proofs.YtkaghbpdnmigmaaDoor
