/- State: the laws' To: written by genSaG.py. -/
import Derived.Test.YtpnchdgplpdefaaGreatDoorEnSaE
namespace Go.Proofs.YtpnchdgplpdefaaGreatDoor
open Go.RowKit
set_option maxRecDepth 100000 in
set_option maxHeartbeats 1000000 in
theorem Diff_leaf (s1 s2 : Nat) (w : World) (h1 : StH w s1 .leaf) (h2 : StH w s2 .leaf) : Calls Tryz.prog 40 #[.pointer (some ⟨s1, 0, none⟩), .pointer (some ⟨s2, 0, none⟩)] w (Same' w (.slice none 0 0)) := by
 obtain ⟨a1, hb1, hn1⟩ := h1
 obtain rfl : a1 = none := hn1
 obtain ⟨a2, hb2, hn2⟩ := h2
 obtain rfl : a2 = none := hn2
 have R1 : Hid (w.cell? ⟨s1, 0, none⟩ = some (.pointer none)) := hb1.cell 0
 have R2 : Hid (w.cell? ⟨s2, 0, none⟩ = some (.pointer none)) := hb2.cell 0
 clear hb1 hb2
 go_enter Tryz.func40, Tryz.ntmps40
 go_upto_region 1 with fail
 refine wp_region_st 17 Nothing [Is (.pointer (some ⟨s1, 0, none⟩)), Is (.bool false), Is (.bool false), Is (.pointer (some ⟨s2, 0, none⟩)), Is (.bool false), Is (.bool false), Is (.bool false), Is (.pointer (some ⟨s1, 0, none⟩)), Is (.pointer (some ⟨s1, 0, none⟩)), Is (.pointer (some ⟨s1, 0, none⟩)), Is (.pointer none), Is (.pointer (some ⟨s2, 0, none⟩)), Is (.pointer (some ⟨s2, 0, none⟩)), Is (.pointer (some ⟨s2, 0, none⟩)), Is (.pointer none), Is (.bool true), Is (.bool true)] [] (fun _ => True) (fun _ _ => false) (by kernel_rfl) (by kernel_rfl) (by kernel_rfl) (by kernel_rfl) ⟨Is.stable _, Is.stable _, Is.stable _, Is.stable _, Is.stable _, Is.stable _, Is.stable _, Is.stable _, Is.stable _, Is.stable _, Is.stable _, Is.stable _, Is.stable _, Is.stable _, Is.stable _, Is.stable _, Is.stable _, trivial⟩ trivial (fun _ _ _ _ h => h) trivial ?_ ?_
 ·refine ⟨fun u w' d hf hR k1 k0 kM => ?_, fun u w' d hf hR k1 k0 kM => ?_, fun u w' d hf hR k1 k0 kM => ?_, fun u w' d hf hR k1 k0 kM => ?_, fun u w' d hf hR k1 k0 kM => ?_, fun u w' d hf hR k1 k0 kM => ?_, fun u w' d hf hR k1 k0 kM => ?_, fun u w' d hf hR k1 k0 kM => ?_, fun u w' d hf hR k1 k0 kM => ?_, fun u w' d hf hR k1 k0 kM => ?_, fun u w' d hf hR k1 k0 kM => ?_, fun u w' d hf hR k1 k0 kM => ?_, fun u w' d hf hR k1 k0 kM => ?_, fun u w' d hf hR k1 k0 kM => ?_, fun u w' d hf hR k1 k0 kM => ?_, fun u w' d hf hR k1 k0 kM => ?_, fun u w' d hf hR k1 k0 kM => ?_, trivial⟩
  all_goals simp only [List.take_succ_cons, List.take_zero, List.map_cons, List.map_nil, puts, Act.put, List.setIfInBounds_toArray, List.set_cons_zero, List.set_cons_succ, Nat.reduceAdd, Nat.zero_add]
  ·clear hR k1 k0 kM
   refine .inl ⟨by kernel_rfl, ?_⟩
   go_simp
   exact ⟨_, rfl, Fr.refl _ _, rfl, trivial⟩
  ·have h0 : u 0 = _ := hR 0 (by kernel_rfl)
   clear hR k1 k0 kM
   simp only [h0]
   refine .inl ⟨by kernel_rfl, ?_⟩
   go_simp
   exact ⟨_, rfl, Fr.refl _ _, rfl, trivial⟩
  ·have h1 : u 1 = _ := hR 1 (by kernel_rfl)
   clear hR k1 k0 kM
   simp only [h1]
   refine .inl ⟨by kernel_rfl, ?_⟩
   go_simp
   exact ⟨_, rfl, Fr.refl _ _, rfl, trivial⟩
  ·have h2 : u 2 = _ := hR 2 (by kernel_rfl)
   clear hR k1 k0 kM
   simp only [h2]
   refine .inl ⟨by kernel_rfl, ?_⟩
   go_simp
   exact ⟨_, rfl, Fr.refl _ _, rfl, trivial⟩
  ·have h3 : u 3 = _ := hR 3 (by kernel_rfl)
   have h2 : u 2 = _ := hR 2 (by kernel_rfl)
   clear hR k1 k0 kM
   simp only [h3, h2]
   refine .inl ⟨by kernel_rfl, ?_⟩
   go_simp
   exact ⟨_, rfl, Fr.refl _ _, rfl, trivial⟩
  ·have h2 : u 2 = _ := hR 2 (by kernel_rfl)
   have h4 : u 4 = _ := hR 4 (by kernel_rfl)
   clear hR k1 k0 kM
   simp only [h2, h4]
   refine .inl ⟨by kernel_rfl, ?_⟩
   go_simp
   exact ⟨_, rfl, Fr.refl _ _, rfl, trivial⟩
  ·have h5 : u 5 = _ := hR 5 (by kernel_rfl)
   clear hR k1 k0 kM
   simp only [h5]
   refine .inl ⟨by kernel_rfl, ?_⟩
   go_simp
   exact ⟨_, rfl, Fr.refl _ _, rfl, trivial⟩
  ·have h6 : u 6 = _ := hR 6 (by kernel_rfl)
   clear hR k1 k0 kM
   simp only [h6]
   refine .inl ⟨by kernel_rfl, ?_⟩
   go_simp
   exact ⟨_, rfl, Fr.refl _ _, rfl, trivial⟩
  ·have h7 : u 7 = _ := hR 7 (by kernel_rfl)
   have h6 : u 6 = _ := hR 6 (by kernel_rfl)
   clear hR k1 k0 kM
   simp only [h7, h6]
   refine .inl ⟨by kernel_rfl, ?_⟩
   go_simp
   exact ⟨_, rfl, Fr.refl _ _, rfl, trivial⟩
  ·have h8 : u 8 = _ := hR 8 (by kernel_rfl)
   have h6 : u 6 = _ := hR 6 (by kernel_rfl)
   clear hR k1 k0 kM
   simp only [h8, h6]
   refine .inl ⟨by kernel_rfl, ?_⟩
   go_simp
   exact ⟨_, rfl, Fr.refl _ _, rfl, trivial⟩
  ·have h9 : u 9 = _ := hR 9 (by kernel_rfl)
   have h6 : u 6 = _ := hR 6 (by kernel_rfl)
   clear hR k1 k0 kM
   simp only [h9, h6]
   refine .inl ⟨by kernel_rfl, ?_⟩
   have hc : w'.cell? ⟨s1, 0, none⟩ = some (.pointer none) := hf.cellSome R1.out (fun x => x)
   go_simp
   exact ⟨_, rfl, Fr.refl _ _, rfl, trivial⟩
  ·have h6 : u 6 = _ := hR 6 (by kernel_rfl)
   clear hR k1 k0 kM
   simp only [h6]
   refine .inl ⟨by kernel_rfl, ?_⟩
   go_simp
   exact ⟨_, rfl, Fr.refl _ _, rfl, trivial⟩
  ·have h11 : u 11 = _ := hR 11 (by kernel_rfl)
   have h6 : u 6 = _ := hR 6 (by kernel_rfl)
   clear hR k1 k0 kM
   simp only [h11, h6]
   refine .inl ⟨by kernel_rfl, ?_⟩
   go_simp
   exact ⟨_, rfl, Fr.refl _ _, rfl, trivial⟩
  ·have h12 : u 12 = _ := hR 12 (by kernel_rfl)
   have h6 : u 6 = _ := hR 6 (by kernel_rfl)
   clear hR k1 k0 kM
   simp only [h12, h6]
   refine .inl ⟨by kernel_rfl, ?_⟩
   go_simp
   exact ⟨_, rfl, Fr.refl _ _, rfl, trivial⟩
  ·have h13 : u 13 = _ := hR 13 (by kernel_rfl)
   have h6 : u 6 = _ := hR 6 (by kernel_rfl)
   clear hR k1 k0 kM
   simp only [h13, h6]
   refine .inl ⟨by kernel_rfl, ?_⟩
   have hc : w'.cell? ⟨s2, 0, none⟩ = some (.pointer none) := hf.cellSome R2.out (fun x => x)
   go_simp
   exact ⟨_, rfl, Fr.refl _ _, rfl, trivial⟩
  ·have h10 : u 10 = _ := hR 10 (by kernel_rfl)
   have h14 : u 14 = _ := hR 14 (by kernel_rfl)
   have h6 : u 6 = _ := hR 6 (by kernel_rfl)
   clear hR k1 k0 kM
   simp only [h10, h14, h6]
   refine .inl ⟨by kernel_rfl, ?_⟩
   go_simp
   exact ⟨_, rfl, Fr.refl _ _, rfl, trivial⟩
  ·have h6 : u 6 = _ := hR 6 (by kernel_rfl)
   have h15 : u 15 = _ := hR 15 (by kernel_rfl)
   clear hR k1 k0 kM
   simp only [h6, h15]
   refine .inl ⟨by kernel_rfl, ?_⟩
   go_simp
   exact ⟨_, rfl, Fr.refl _ _, rfl, trivial⟩
 ·intro u w' hf hR kM
  have k16 : u 16 = _ := hR 16 (by omega)
  clear hR kM
  simp only [List.take_succ_cons, List.take_zero, List.map_cons, List.map_nil, puts, Act.put, List.setIfInBounds_toArray, List.set_cons_zero, List.set_cons_succ, List.drop_succ_cons, List.drop_zero, Nat.reduceAdd, Nat.zero_add, k16]
  have F2 := Lib.hid hf
  clear hf k16
  go_wp2
  go_ret
  exact ⟨rfl, F2.out⟩
set_option maxRecDepth 100000 in
set_option maxHeartbeats 1000000 in
theorem Equal_leaf (s1 s2 : Nat) (w : World) (h1 : StH w s1 .leaf) (h2 : StH w s2 .leaf) : Calls Tryz.prog 11 #[.pointer (some ⟨s1, 0, none⟩), .pointer (some ⟨s2, 0, none⟩)] w (Same' w (.bool true)) := by
 have L1 : Hid (Calls Tryz.prog 22 #[.pointer (some ⟨s1, 0, none⟩)] w (SameW w (.int .i64 0))) := Len_any w s1 .leaf h1
 have L2 : Hid (Calls Tryz.prog 22 #[.pointer (some ⟨s2, 0, none⟩)] w (SameW w (.int .i64 0))) := Len_any w s2 .leaf h2
 have B1 : Hid (Calls Tryz.prog 39 #[.pointer (some ⟨s1, 0, none⟩)] w (SameW w (.int .i64 0))) := Bytes_any w s1 .leaf h1
 have B2 : Hid (Calls Tryz.prog 39 #[.pointer (some ⟨s2, 0, none⟩)] w (SameW w (.int .i64 0))) := Bytes_any w s2 .leaf h2
 have CD := Lib.hid (Diff_leaf s1 s2 w h1 h2)
 clear h1 h2
 go_enter Tryz.func11, Tryz.ntmps11
 go_wp2_with fail
 refine L1.out.mono ?_
 rintro e w' ⟨rfl, rfl⟩
 go_wp2_with fail
 refine L2.out.mono ?_
 rintro e w' ⟨rfl, rfl⟩
 go_wp2_with fail
 refine B1.out.mono ?_
 rintro e w' ⟨rfl, rfl⟩
 go_wp2_with fail
 refine B2.out.mono ?_
 rintro e w' ⟨rfl, rfl⟩
 go_wp2_with fail
 refine CD.out.mono ?_
 rintro e w2 ⟨rfl, f2⟩
 have F2 := Lib.hid f2
 clear f2
 go_wp2
 go_ret
 exact ⟨rfl, F2.out⟩
set_option maxRecDepth 100000 in
set_option maxHeartbeats 1000000 in
theorem Equal_size (s1 s2 : Nat) (t1 t2 : Tr) (w : World) (h1 : StH w s1 t1) (h2 : StH w s2 t2) (hne : t1.size ≠ t2.size) : Calls Tryz.prog 11 #[.pointer (some ⟨s1, 0, none⟩), .pointer (some ⟨s2, 0, none⟩)] w (Same' w (.bool false)) := by
 have L1 := Lib.hid (Len_any w s1 t1 h1)
 have L2 := Lib.hid (Len_any w s2 t2 h2)
 have te : ((t1.size : Int) == (t2.size : Int)) = false := by rw [beq_eq_false_iff_ne]; omega
 generalize t1.size = x at *
 generalize t2.size = y at *
 clear h1 h2
 go_enter Tryz.func11, Tryz.ntmps11
 go_wp2_with fail
 refine L1.out.mono ?_
 rintro e w' ⟨rfl, rfl⟩
 go_wp2_with fail
 refine L2.out.mono ?_
 rintro e w' ⟨rfl, rfl⟩
 go_wp2
 go_ret
 exact ⟨rfl, Fr.refl _ _⟩
set_option maxRecDepth 100000 in
set_option maxHeartbeats 2000000 in
theorem known_any (w : World) (hU : UsaT w) : Calls Tryz.prog 4 #[] w (Same' w (.bool true)) := by
 have HU := Lib.hid hU
 clear hU
 go_enter Tryz.func4, Tryz.ntmps4
 go_wp2_with fail
 refine (New_any w).mono ?_
 rintro e w1 ⟨s, rfl, hS, f1⟩
 have S1 := Lib.hid hS
 have F1 := Lib.hid f1
 clear hS f1
 go_wp2_with fail
 refine (OfClock_any w1).mono ?_
 rintro e w2 ⟨rfl, f2⟩
 have S2 := Lib.hid (S1.out.fr0 f2)
 have F2 := Lib.hid (F1.out.trans f2)
 clear f2 S1 F1
 go_wp2_with fail
 refine (With_clock ⟨#[97]⟩ s w2 S2.out (HU.out.fr0 F2.out) (by decide)).mono ?_
 rintro e w3 ⟨a, rfl, hA, f3⟩
 have A3 := Lib.hid hA
 have S3 := Lib.hid (S2.out.fr0 f3)
 have F3 := Lib.hid (F2.out.trans f3)
 clear f3 hA S2 F2
 go_wp2_with fail
 refine (OfClock_any w3).mono ?_
 rintro e w4 ⟨rfl, f4⟩
 have A4 := Lib.hid (A3.out.fr0 f4)
 have S4 := Lib.hid (S3.out.fr0 f4)
 have F4 := Lib.hid (F3.out.trans f4)
 clear f4 A3 S3 F3
 go_wp2_with fail
 refine (Without_clock _ a w4 A4.out (HU.out.fr0 F4.out)).mono ?_
 rintro e w5 ⟨b, rfl, hB, f5⟩
 have B5 := Lib.hid hB
 have A5 := Lib.hid (A4.out.fr0 f5)
 have S5 := Lib.hid (S4.out.fr0 f5)
 have F5 := Lib.hid (F4.out.trans f5)
 clear f5 hB A4 S4 F4
 go_wp2_with fail
 refine (OfClock_any w5).mono ?_
 rintro e w6 ⟨rfl, f6⟩
 have B6 := Lib.hid (B5.out.fr0 f6)
 have A6 := Lib.hid (A5.out.fr0 f6)
 have S6 := Lib.hid (S5.out.fr0 f6)
 have F6 := Lib.hid (F5.out.trans f6)
 clear f6 B5 A5 S5 F5
 go_wp2_with fail
 refine (Get_hit _ _ _ a w6 A6.out).mono ?_
 rintro e w7 ⟨rfl, f7⟩
 have B7 := Lib.hid (B6.out.fr0 f7)
 have A7 := Lib.hid (A6.out.fr0 f7)
 have S7 := Lib.hid (S6.out.fr0 f7)
 have F7 := Lib.hid (F6.out.trans f7)
 clear f7 B6 A6 S6 F6
 go_wp2_with fail
 refine (OfClock_any w7).mono ?_
 rintro e w8 ⟨rfl, f8⟩
 have B8 := Lib.hid (B7.out.fr0 f8)
 have A8 := Lib.hid (A7.out.fr0 f8)
 have S8 := Lib.hid (S7.out.fr0 f8)
 have F8 := Lib.hid (F7.out.trans f8)
 clear f8 B7 A7 S7 F7
 go_wp2_with fail
 refine (Get_none b w8 B8.out).mono ?_
 rintro e w9 ⟨rfl, f9⟩
 have B9 := Lib.hid (B8.out.fr0 f9)
 have A9 := Lib.hid (A8.out.fr0 f9)
 have S9 := Lib.hid (S8.out.fr0 f9)
 have F9 := Lib.hid (F8.out.trans f9)
 clear f9 B8 A8 S8 F8
 go_wp2_with fail
 refine (Equal_leaf b s w9 B9.out S9.out).mono ?_
 rintro e wa ⟨rfl, fa⟩
 have A10 := Lib.hid (A9.out.fr0 fa)
 have S10 := Lib.hid (S9.out.fr0 fa)
 have F10 := Lib.hid (F9.out.trans fa)
 clear fa B9 A9 S9 F9
 go_wp2_with fail
 refine (Equal_size a s _ _ wa A10.out S10.out (by simp [Tr.size])).mono ?_
 rintro e wb ⟨rfl, fb⟩
 have F11 := Lib.hid (F10.out.trans fb)
 clear fb A10 S10 F10
 go_wp2
 go_ret
 exact ⟨rfl, F11.out⟩
end Go.Proofs.YtpnchdgplpdefaaGreatDoor
namespace Go.Proofs.YtpnchdgplpdefaaGreatDoor
open Go.RowKit
theorem wpList_storeOne {P : Program} {ops : Array Oper} {rest : List Oper} {o : Oper} {a : Act} {w : World} {Q : Exit → Act → World → Prop} (hgd : o.guard = none) (ty : TypeId) (x y : Operand) (ho : o.op = .store ty x y)
  (g f : Nat) (v : Value) (hx : a.eval x = .pointer (some ⟨g, f, none⟩)) (hy : a.eval y = v) (h1 : v.oneCell' = true) (hi : (P.info? ty).map (·.size) = some 1)
  (t : TypeId) (cs cs' : Array Value) (hB : Blk w g t cs) (hf : f < cs.size) (hcs : cs.setIfInBounds f v = cs')
  (h : ∀ w', Blk w' g t cs' → Fr (fun k => k = g) w w' → wpList P ops Q rest (a.put o.dst undef) w') : wpList P ops Q (o :: rest) a w := by
 subst hcs
 obtain ⟨ie, hie, hs⟩ : ∃ ie, P.info? ty = some ie ∧ ie.size = 1 := by
  cases he : P.info? ty with
  | none => rw [he] at hi; cases hi
  | some ie => rw [he] at hi; exact ⟨ie, rfl, by simpa using hi⟩
 have hrun := Lib.rl_storeVar_one (P := P) ty ie hie hs ⟨g, f, none⟩ v (cs[f]) h1 w (by rw [hB.cell]; simp [hf]) (hB.frozen _)
 refine wpList_plain hgd fun K hK => ?_
 unfold Oper.wp execOp
 simp only [ho, hx, hy, Instr.storeAt, Instr.sureAddr, Sem.run_bind, Sem.run_pure, Result.andThen_ok, hrun]
 exact hK _ _ (h _ (hB.set_ f v) (Fr.setCell (T := fun k => k = g) (Fr.refl _ w) (fun _ => rfl) v))
theorem wp_storeOne {P : Program} {o : Oper} {a : Act} {w : World} {K : Act → World → Prop} {Q : Exit → Act → World → Prop} (ty : TypeId) (x y : Operand) (ho : o.op = .store ty x y)
  (g f : Nat) (v : Value) (hx : a.eval x = .pointer (some ⟨g, f, none⟩)) (hy : a.eval y = v) (h1 : v.oneCell' = true) (hi : (P.info? ty).map (·.size) = some 1)
  (t : TypeId) (cs cs' : Array Value) (hB : Blk w g t cs) (hf : f < cs.size) (hcs : cs.setIfInBounds f v = cs')
  (h : ∀ w', Blk w' g t cs' → Fr (fun k => k = g) w w' → K (a.put o.dst undef) w') : o.wp P a w K Q := by
 subst hcs
 obtain ⟨ie, hie, hs⟩ : ∃ ie, P.info? ty = some ie ∧ ie.size = 1 := by
  cases he : P.info? ty with
  | none => rw [he] at hi; cases hi
  | some ie => rw [he] at hi; exact ⟨ie, rfl, by simpa using hi⟩
 have hrun := Lib.rl_storeVar_one (P := P) ty ie hie hs ⟨g, f, none⟩ v (cs[f]) h1 w (by rw [hB.cell]; simp [hf]) (hB.frozen _)
 unfold Oper.wp execOp
 simp only [ho, hx, hy, Instr.storeAt, Instr.sureAddr, Sem.run_bind, Sem.run_pure, Result.andThen_ok, hrun]
 exact h _ (hB.set_ f v) (Fr.setCell (T := fun k => k = g) (Fr.refl _ w) (fun _ => rfl) v)
structure CV where
 nm : NameV
 value : ByteArray
 absent : Bool
def CV.cells (c : CV) : List Value := c.nm.cells ++ [.string c.value, .bool c.absent]
theorem CV.cells_length (c : CV) : c.cells.length = 7 := rfl
def cutS (s : ByteArray) (k : Int) : ByteArray := s.extract 0 (min (s.size : Int) k).toNat
def CV.cut (c : CV) : CV := ⟨⟨c.nm.kind, cutS c.nm.owner 100, c.nm.number, c.nm.index, cutS c.nm.text 100⟩, cutS c.value 200, c.absent⟩
theorem infoC : (Tryz.prog.info? 59).map (·.size) = some 7 := by kernel_rfl
theorem infoCh : (Tryz.prog.info? 55).map (·.size) = some 7 := by kernel_rfl
theorem infoStr : (Tryz.prog.info? 9).map (·.size) = some 1 := by kernel_rfl
theorem CV.one (c : CV) : c.cells.toArray.all (·.oneCell') = true := by
 simp [CV.cells, NameV.cells, Value.oneCell']
theorem NameV.one (n : NameV) : n.cells.toArray.all (·.oneCell') = true := by
 simp [NameV.cells, Value.oneCell']
theorem builtName (n : NameV) : Tryz.prog.built 44 [(0, .int .i64 n.kind), (1, .string n.owner), (2, .int .i64 n.number), (3, .int .i64 n.index), (4, .string n.text)] = some n.cells.toArray := by kernel_rfl
set_option maxRecDepth 100000 in
set_option maxHeartbeats 1000000 in
theorem To4_any (n : NameV) (w : World) : Calls Tryz.prog 48 #[.agg n.cells.toArray] w (Same' w (.agg n.cells.toArray)) := by
 have B := Lib.hid (builtName n)
 have O := Lib.hid n.one
 have I : Hid ((Tryz.prog.info? 44).map (·.size) = some n.cells.toArray.size) := infoName
 have Z : Hid ((#[.int .i64 0, .string ByteArray.empty, .int .i64 0, .int .i64 0, .string ByteArray.empty] : Array Value).size = n.cells.toArray.size) := rfl
 go_enter Tryz.func48, Tryz.ntmps48
 go_wp2_with (refine wpList_boxBlk rfl 57 (.tmp 0) rfl n.cells.toArray rfl ?_)
 intro w1 n1
 have F1 := Lib.hid n1.fr
 have NB := Lib.hid n1.blk
 clear n1
 generalize w.heap.size = gb at *
 go_wp2_with (refine wpList_allocBlk rfl 44 rfl nameZ zvName #[.int .i64 0, .string ByteArray.empty, .int .i64 0, .int .i64 0, .string ByteArray.empty] rfl ?_)
 intro w2 n2
 have N2 := Lib.hid n2
 clear n2
 have F2 := Lib.hid (F1.out.trans N2.out.fr)
 have NB2 := Lib.hid (NB.out.fr N2.out.fr (fun x => x))
 generalize hgr : w1.heap.size = gr at *
 have HGR := Lib.hid hgr
 clear hgr
 have R2 : Hid (Blk w2 gr 44 #[.int .i64 0, .string ByteArray.empty, .int .i64 0, .int .i64 0, .string ByteArray.empty]) := by have h := N2.out.blk; rw [HGR.out] at h; exact h
 have c0 : w2.cell? ⟨gb, 0, none⟩ = some (.int .i64 n.kind) := NB2.out.cell 0
 have c1 : w2.cell? ⟨gb, 1, none⟩ = some (.string n.owner) := NB2.out.cell 1
 have c2 : w2.cell? ⟨gb, 2, none⟩ = some (.int .i64 n.number) := NB2.out.cell 2
 have c3 : w2.cell? ⟨gb, 3, none⟩ = some (.int .i64 n.index) := NB2.out.cell 3
 have c4 : w2.cell? ⟨gb, 4, none⟩ = some (.string n.text) := NB2.out.cell 4
 clear NB
 go_wp2_with (refine wpList_built rfl 44 _ rfl n.cells.toArray _ (by simp only [List.map_toArray, List.map_cons, List.map_nil]; rfl) B.out (Held.go ?hold))
 unfold Held
 refine wpList_storeBlk rfl 44 (.tmp 2) _ rfl gr n.cells.toArray rfl rfl _ _ R2.out I.out Z.out O.out ?_
 intro wz b5 f5
 have J4 := Lib.hid b5
 have JF : Hid (Fr Nothing w wz) := F2.out.then_ f5 (fun i hi e => by have e' : i = gr := e; have q1 := HGR.out; have q2 := F1.out.size; omega)
 clear b5 f5 N2 NB2 R2 HGR c0 c1 c2 c3 c4
 go_wp2
 exact bodyPost_ret (results_cell_row (fn := Tryz.f48) (p := 2) (ty := 44) Tryz.results48 _ wz _ 44 n.cells.toArray (0, 0) _ rfl J4.out Tryz.underlying44 rfl I.out) rfl ⟨rfl, JF.out⟩
theorem flat7 : ∀ (xs : List CV) (k : Nat) (c : CV), xs[k]? = some c → ∀ j x, c.cells[j]? = some x → (xs.flatMap CV.cells)[k * 7 + j]? = some x
 | [], _, _, h, _, _, _ => by simp at h
 | y :: ys, 0, c, h, j, x, hx => by
  simp only [List.getElem?_cons_zero, Option.some.injEq] at h
  subst h
  have hj : j < 7 := (List.getElem?_eq_some_iff.1 hx).1
  rw [List.flatMap_cons, Nat.zero_mul, Nat.zero_add, List.getElem?_append_left hj]
  exact hx
 | y :: ys, k + 1, c, h, j, x, hx => by
  rw [List.flatMap_cons, List.getElem?_append_right (by rw [CV.cells_length]; omega), CV.cells_length, show (k + 1) * 7 + j - 7 = k * 7 + j by omega]
  exact flat7 ys k c (by simpa using h) j x hx
structure CL (w : World) (S : Nat → Prop) (A : Option Addr) (n : Nat) (xs : List CV) : Prop where
 rd : Rd w S 7 A n (xs.flatMap CV.cells)
 len : xs.length = n
theorem CL.fr0 {w w' : World} {S : Nat → Prop} {A : Option Addr} {n : Nat} {xs : List CV} (h : CL w S A n xs) (hf : Fr Nothing w w') : CL w' S A n xs := ⟨h.rd.fr0 hf, h.len⟩
theorem CL.at_ {w : World} {S : Nat → Prop} {A : Option Addr} {n k : Nat} {xs : List CV} (h : CL w S A n xs) (hk : k < n) : ∃ ad c, A = some ad ∧ xs[k]? = some c ∧ ∀ j x, c.cells[j]? = some x → w.cell? ((ad.add (k * 7)).add j) = some x := by
 obtain ⟨ad, e, hb, hc⟩ := h.rd.2 (by omega)
 have hkl : k < xs.length := by rw [h.len]; exact hk
 refine ⟨ad, xs[k], e, List.getElem?_eq_getElem hkl, fun j x hx => ?_⟩
 rw [add_of_add]
 exact hc _ x (flat7 xs k xs[k] (List.getElem?_eq_getElem hkl) j x hx)
end Go.Proofs.YtpnchdgplpdefaaGreatDoor
