/- Steps of the proof of LawPipesLoseNothing: contracts of the functions that the law reaches, for every world that holds what each of them asks. -/
import Derived.Test.YtmpokappjogehaaGreatDoorQBI
set_option linter.unusedVariables false
set_option linter.unusedSimpArgs false
namespace Go.Proofs.YtmpokappjogehaaGreatDoor
namespace Ev
open Go Go.RowKit
theorem not_empty {s : ByteArray} (h : ¬ s = ByteArray.empty) : s.toList.isEmpty = false := by
  cases hs : s.toList.isEmpty with
  | false => rfl
  | true =>
    refine absurd (ba_ext ?_) h
    rw [ba_toList, List.isEmpty_iff] at hs
    rw [hs]
    rfl
set_option maxRecDepth 100000 in
set_option maxHeartbeats 8000000 in
theorem Pipes_any (A0 A1 : Option Addr) (n0 c0 n1 c1 : Nat) (l0 l1 : List UInt8) (S0 S1 : Nat → Prop) (w : World) (hU : UsaT w) (hw : 0 < w.heap.size) (r0 : Rd w S0 1 A0 n0 (l0.map bv)) (r1 : Rd w S1 1 A1 n1 (l1.map bv)) (b0 : n0 ≤ 9223372036854775807) (b1 : n1 ≤ 9223372036854775807) :
    Calls Tryz.prog 3 #[.slice A0 n0 c0, .slice A1 n1 c1] w (fun e w' => e = .returned (.bool true) ∧ Fr Nothing w w') := by
  have HU := Lib.hid hU
  have HW := Lib.hid hw
  have R0 := Lib.hid r0
  have R1 := Lib.hid r1
  have B0 := Lib.hid b0
  have B1 := Lib.hid b1
  clear hU hw r0 r1 b0 b1
  go_enter Tryz.func3, Tryz.ntmps3
  go_wp2_with fail
  refine (machine_any _ HU.out HW.out).mono ?_
  rintro e w1 ⟨v, S, rfl, h1⟩
  have H1 := Lib.hid h1
  clear h1
  go_wp2_with fail
  refine (Known_any _ H1.out.usa (Nat.lt_of_lt_of_le H1.out.pos H1.out.fr.size)).mono ?_
  rintro e w2 ⟨rfl, f2⟩
  have H2 : Hid (MSt w w2 v S lv12) := H1.out.fr0 f2
  clear f2 H1
  go_wp2_with fail
  refine (Pipe1 H2.out).mono ?_
  rintro e w3 ⟨S3, rfl, h3⟩
  have H3 := Lib.hid h3
  clear h3 H2
  go_wp2_with fail
  refine (Spawn1 H3.out).mono ?_
  rintro e w4 ⟨S4, rfl, h4⟩
  have H4 := Lib.hid h4
  clear h4 H3
  obtain ⟨who, hwho⟩ : ∃ who, who = whoB2 := ⟨_, rfl⟩
  have HWHO := Lib.hid hwho
  rw [← hwho]
  clear hwho
  go_wp2_with fail
  refine (Close10 H4.out).mono ?_
  rintro e w5 ⟨S5, rfl, h5⟩
  have H5 := Lib.hid h5
  clear h5 H4
  go_wp2_with fail
  have C6 := Close11 H5.out
  rw [← HWHO.out] at C6
  refine C6.mono ?_
  clear C6
  rintro e w6 ⟨rfl, h6⟩
  have H6 := Lib.hid h6
  clear h6 H5
  go_wp2_with fail
  go_loopw [12, 13, 14, 15] (fun s g p i wr => ∃ (sent got : ByteArray) (part k : Nat), s = .string sent ∧ g = .string got ∧ p = .int .i64 part ∧ i = .int .i64 k ∧ k ≤ n1 ∧ k ≤ 60 ∧ part ≤ k ∧ TurnInv w wr v sent got k) (fun _ _ _ i _ => 60 - (intOf i).toNat)
  case atStart => exact ⟨_, _, 0, 0, rfl, rfl, rfl, rfl, Nat.zero_le _, Nat.zero_le _, Nat.zero_le _, H6.out⟩
  case round =>
    obtain ⟨sent, got, part, k, rfl, rfl, rfl, rfl, hk1, hk2, hpk, hI⟩ := hrel
    have HI := Lib.hid hI
    have HK1 := Lib.hid hk1
    have HK2 := Lib.hid hk2
    have HPK := Lib.hid hpk
    clear hI hk1 hk2 hpk H6
    have t0 : (0 : Int) ≤ (k : Int) := by omega
    by_cases h1 : k < n1
    · have t1 : (k : Int) < (n1 : Int) := by omega
      have t1' : decide ((k : Int) < (n1 : Int)) = true := decide_eq_true t1
      by_cases h2 : k < 60
      · have t2' : decide ((k : Int) < 60) = true := decide_eq_true (by omega)
        have HL1 := Lib.hid h1
        have HL2 := Lib.hid h2
        have D1 : IntKind.i64.wrap ((k : Int) + 1) = ((k + 1 : Nat) : Int) := by rw [IntWalk.i64_in _ (by omega)]; omega
        clear h1 h2
        obtain ⟨a1, x1, rfl, hx1, hc1⟩ := Rd.u8 R1.out HL1.out
        have HX1 := Lib.hid hx1
        have HC1 := Lib.hid hc1
        have q1 := HI.out.fr.cellSome hc1 (fun x => x)
        clear hx1 hc1
        have D2 : IntKind.i64.wrap (x1 : Int) = (x1 : Int) := IntWalk.i64_in _ (by have := HX1.out; omega)
        by_cases hev : (x1 : Int) % 2 = 0
        · by_cases hp : part < n0
          · have p1 : decide ((part : Int) < (n0 : Int)) = true := decide_eq_true (by omega)
            have p2 : (part : Int) < (n0 : Int) := by omega
            have p3 : (0 : Int) ≤ (part : Int) := by omega
            obtain ⟨a0, x0, rfl, hx0, hc0⟩ := Rd.u8 R0.out hp
            have HX0 := Lib.hid hx0
            have q0 := HI.out.fr.cellSome hc0 (fun x => x)
            have D3 : (part : Int) % 256 = (part : Int) := by have := HPK.out; have := HK2.out; omega
            have D4 : IntKind.u16.wrap (x0 : Int) = (x0 : Int) := by rw [IntKind.wrap_u16]; have := HX0.out; omega
            have D5 : IntKind.i64.wrap ((part : Int) + 1) = ((part + 1 : Nat) : Int) := by rw [IntWalk.i64_in _ (by have := HPK.out; have := HK2.out; omega)]; omega
            clear hx0 hc0
            go_wp2_with fail
            refine (text_any0 x0 part _ HX0.out (by have := HPK.out; have := HK2.out; omega)).mono ?_
            rintro e w7 ⟨s, hs, rfl, f7⟩
            have HS := Lib.hid hs
            have I7 := Lib.hid (HI.out.fr0 f7)
            clear hs f7 q1 q0 HI
            go_wp2_with fail
            refine (I7.out.write HK2.out s (by rw [HS.out]; exact HX0.out)).mono ?_
            rintro e w8 ⟨n, er, rfl, her, hn, h8⟩
            have HN := Lib.hid hn
            have H8 := Lib.hid h8
            have hadd : (Op.stringOp .add sent (s.extract 0 n)).run Tryz.prog w8 = .ok (.string (sent ++ s.extract 0 n)) w8 := Go.run_string_add_sum _ _ _ (by have := I7.out.sizes; have := HK2.out; have := HX0.out; have := HS.out; rw [ByteArray.size_extract]; omega)
            have s1 : decide ((s.size : Int) < (n : Int)) = false := decide_eq_false (by omega)
            have s2 : (n : Int) ≤ (s.size : Int) := by omega
            have s3 : (0 : Int) ≤ (n : Int) := by omega
            have s4 : ¬ ((s.size : Int) < (n : Int)) := by omega
            have s5 : (0 : Int) ≤ (s.size : Int) := by omega
            clear h8 hn I7
            rcases her with rfl | rfl
            all_goals go_wp2_with fail
            all_goals go_roundw
            all_goals first
              | exact ⟨_, _, part + 1, k + 1, rfl, rfl, by go_num, by go_num, HL1.out, HL2.out, Nat.succ_le_succ HPK.out, H8.out⟩
              | exact ⟨_, _, part, k + 1, rfl, rfl, rfl, by go_num, HL1.out, HL2.out, Nat.le_succ_of_le HPK.out, H8.out⟩
              | (have := HL2.out; simp [intOf]; omega)
          · have p1 : decide ((part : Int) < (n0 : Int)) = false := decide_eq_false (by omega)
            go_wp2_with fail
            have C := HI.out.read HK2.out x1 HX1.out
            rw [← HWHO.out] at C
            refine C.mono ?_
            clear C
            rintro e w7 ⟨s, er, rfl, her, hs, h7⟩
            have HS := Lib.hid hs
            have H7 := Lib.hid h7
            have hadd : (Op.stringOp .add got s).run Tryz.prog w7 = .ok (.string (got ++ s)) w7 := Go.run_string_add_sum _ _ _ (by have := HI.out.sizes; have := HK2.out; have := HX1.out; omega)
            have s1 : decide ((x1 : Int) < (s.size : Int)) = false := decide_eq_false (by omega)
            have q7 := H7.out.fr.cellSome HC1.out (fun x => x)
            have s2 : ¬ ((x1 : Int) < (s.size : Int)) := by omega
            clear hs h7 HI q1
            rcases her with rfl | rfl
            all_goals go_wp2_with fail
            all_goals go_roundw
            all_goals first
              | exact ⟨_, _, part, k + 1, rfl, rfl, rfl, by go_num, HL1.out, HL2.out, Nat.le_succ_of_le HPK.out, H7.out⟩
              | (have := HL2.out; simp [intOf]; omega)
        · go_wp2_with fail
          have C := HI.out.read HK2.out x1 HX1.out
          rw [← HWHO.out] at C
          refine C.mono ?_
          clear C
          rintro e w7 ⟨s, er, rfl, her, hs, h7⟩
          have HS := Lib.hid hs
          have H7 := Lib.hid h7
          have hadd : (Op.stringOp .add got s).run Tryz.prog w7 = .ok (.string (got ++ s)) w7 := Go.run_string_add_sum _ _ _ (by have := HI.out.sizes; have := HK2.out; have := HX1.out; omega)
          have s1 : decide ((x1 : Int) < (s.size : Int)) = false := decide_eq_false (by omega)
          have q7 := H7.out.fr.cellSome HC1.out (fun x => x)
          have s2 : ¬ ((x1 : Int) < (s.size : Int)) := by omega
          clear hs h7 HI q1
          rcases her with rfl | rfl
          all_goals go_wp2_with fail
          all_goals go_roundw
          all_goals first
            | exact ⟨_, _, part, k + 1, rfl, rfl, rfl, by go_num, HL1.out, HL2.out, Nat.le_succ_of_le HPK.out, H7.out⟩
            | (have := HL2.out; simp [intOf]; omega)
      · have t9 : decide ((k : Int) < 60) = false := decide_eq_false (by omega)
        clear h1 h2
        go_wp2_with fail
        refine (HI.out.close HK2.out).mono ?_
        rintro e w7 ⟨rfl, h7⟩
        have H7 := Lib.hid h7
        clear h7 HI
        go_wp2_with fail
        go_loopw [13, 21] (fun g i wr => ∃ (got : ByteArray) (j : Nat), g = .string got ∧ i = .int .i64 j ∧ j ≤ 1 ∧ EndInv w wr v sent got j) (fun _ i _ => 2 - (intOf i).toNat)
        case atStart => exact ⟨_, 0, rfl, rfl, Nat.zero_le _, H7.out⟩
        case round =>
          obtain ⟨got, j, rfl, rfl, hj, hI⟩ := hrel
          have HJ := Lib.hid hj
          have HI := Lib.hid hI
          have t8 : decide ((j : Int) < 10) = true := decide_eq_true (by omega)
          have D8 : IntKind.i64.wrap ((j : Int) + 1) = ((j + 1 : Nat) : Int) := by rw [IntWalk.i64_in _ (by omega)]; omega
          clear hj hI H7
          go_wp2_with fail
          have C := HI.out.read (by have := HJ.out; omega)
          rw [← HWHO.out] at C
          refine C.mono ?_
          clear C
          rintro e w8 ⟨s, rfl, hs, hsz, he, h8⟩
          have HS := Lib.hid hs
          have HE := Lib.hid he
          have H8 := Lib.hid h8
          have hadd : (Op.stringOp .add got s).run Tryz.prog w8 = .ok (.string (got ++ s)) w8 := Go.run_string_add_sum _ _ _ (by have := HI.out.sizes; have := congrArg ByteArray.size hs; rw [ByteArray.size_append] at this; omega)
          clear hs hsz he h8 HI
          by_cases hem : s = ByteArray.empty
          · subst hem
            rw [ByteArray.append_empty] at hadd H8 HS
            go_wp2_with fail
            go_ret
            exact ⟨congrArg (fun b => Ending.returned (Value.bool b)) (show (got.toList == sent.toList) = true by rw [HS.out, beq_self_eq_true]), H8.out.fr⟩
          · have hj0 : Hid (j = 0) := Classical.byContradiction fun h => hem (HE.out (by have h' : ¬ j = 0 := h; omega))
            have hem' : s.toList.isEmpty = false := not_empty hem
            clear hem
            go_wp2_with fail
            go_roundw
            case rel => exact ⟨_, j + 1, rfl, by go_num, by have := hj0.out; omega, H8.out⟩
            case measure => have := hj0.out; simp [intOf]; omega
    · have t9 : decide ((k : Int) < (n1 : Int)) = false := decide_eq_false (by omega)
      have t9' : (n1 : Int) ≤ (k : Int) := by omega
      have t9'' : ¬ ((k : Int) < (n1 : Int)) := by omega
      go_wp2_with fail
      refine (HI.out.close HK2.out).mono ?_
      rintro e w7 ⟨rfl, h7⟩
      have H7 := Lib.hid h7
      clear h7 HI
      go_wp2_with fail
      go_loopw [13, 21] (fun g i wr => ∃ (got : ByteArray) (j : Nat), g = .string got ∧ i = .int .i64 j ∧ j ≤ 1 ∧ EndInv w wr v sent got j) (fun _ i _ => 2 - (intOf i).toNat)
      case atStart => exact ⟨_, 0, rfl, rfl, Nat.zero_le _, H7.out⟩
      case round =>
        obtain ⟨got, j, rfl, rfl, hj, hI⟩ := hrel
        have HJ := Lib.hid hj
        have HI := Lib.hid hI
        have t8 : decide ((j : Int) < 10) = true := decide_eq_true (by omega)
        have D8 : IntKind.i64.wrap ((j : Int) + 1) = ((j + 1 : Nat) : Int) := by rw [IntWalk.i64_in _ (by omega)]; omega
        clear hj hI H7
        go_wp2_with fail
        have C := HI.out.read (by have := HJ.out; omega)
        rw [← HWHO.out] at C
        refine C.mono ?_
        clear C
        rintro e w8 ⟨s, rfl, hs, hsz, he, h8⟩
        have HS := Lib.hid hs
        have HE := Lib.hid he
        have H8 := Lib.hid h8
        have hadd : (Op.stringOp .add got s).run Tryz.prog w8 = .ok (.string (got ++ s)) w8 := Go.run_string_add_sum _ _ _ (by have := HI.out.sizes; have := congrArg ByteArray.size hs; rw [ByteArray.size_append] at this; omega)
        clear hs hsz he h8 HI
        by_cases hem : s = ByteArray.empty
        · subst hem
          rw [ByteArray.append_empty] at hadd H8 HS
          go_wp2_with fail
          go_ret
          exact ⟨congrArg (fun b => Ending.returned (Value.bool b)) (show (got.toList == sent.toList) = true by rw [HS.out, beq_self_eq_true]), H8.out.fr⟩
        · have hj0 : Hid (j = 0) := Classical.byContradiction fun h => hem (HE.out (by have h' : ¬ j = 0 := h; omega))
          have hem' : s.toList.isEmpty = false := not_empty hem
          clear hem
          go_wp2_with fail
          go_roundw
          case rel => exact ⟨_, j + 1, rfl, by go_num, by have := hj0.out; omega, H8.out⟩
          case measure => have := hj0.out; simp [intOf]; omega
end Ev
end Go.Proofs.YtmpokappjogehaaGreatDoor
