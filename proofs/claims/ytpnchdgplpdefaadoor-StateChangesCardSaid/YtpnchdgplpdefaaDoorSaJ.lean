/- StateNil: the walk (written by genSaJ.py). -/
import Derived.Test.YtpnchdgplpdefaaDoorSaI
namespace Go.Proofs.YtpnchdgplpdefaaDoor
open Go.RowKit

def TrueNew (w : World) (e : Ending) (w' : World) : Prop := e = .returned (.bool true) ∧ Fr Nothing w w'
def IsPtr (v : Value) (_ : World) : Prop := ∃ g, v = .pointer (some ⟨g, 0, none⟩)
theorem eqZero32 (w : World) : (Op.equalIn 10000 75 (.agg zero32c') (.agg zero32c')).run Tryd.prog w = .ok true w := by kernel_rfl
set_option maxRecDepth 100000 in
set_option maxHeartbeats 4000000 in
theorem StateNil_any (c : CV) (w : World) (hU : UsaT w) : Calls Tryd.prog 9 #[.agg c.cells.toArray] w (TrueNew w) := by
  have HU := Lib.hid hU
  clear hU
  have q0 := Lib.hid eqZero32
  have CK : Hid (∀ w', Fr Nothing w w' → Calls Tryd.prog 12 #[] w' (Same' w' (.bool true))) := fun w' hf => known_any w' (HU.out.fr0 hf)
  obtain ⟨ic, hic, hzc, hc1, hc2⟩ := info_parts zinfoC
  have gc1 : Hid (¬ 1 * ic.size > 2 ^ 24) := by simp only [Hid]; rw [hc1]; omega
  have gc2 : Hid (¬ 1 * ic.size = 0) := by simp only [Hid]; rw [hc1]; omega
  have gc3 : Hid (Instr.fill (fun i => some (i * ic.size, ic.size)) ((Array.range (1 * ic.size)).map (zeroC.cells[· % zeroC.cells.size]!)) [(0, .agg c.cells.toArray)] = some c.cells.toArray) := by simp only [Hid]; rw [hc1]; exact fill_seven _ _ rfl (by simp)
  have CC : Hid (∀ j x, c.cells[j]? = some x → c.cells.toArray[j]? = some x) := fun j x h => by rw [List.getElem?_toArray]; exact h
  have CLn : Hid (c.cells.toArray.size = 7) := rfl
  have ICv : Hid ((Tryd.prog.info? 42).map (·.size) = some c.cells.length) := infoC
  have TA : Hid (∀ (g : Nat) (w' : World), Blk w' g 42 c.cells.toArray → Calls Tryd.prog 14 #[.slice (some ⟨g, 0, none⟩) 1 1] w' (fun e w'' => ∃ v4 v5, e = .returned (.tuple #[v4, v5]) ∧ Grew 38 7 w' (.slice none 0 0) w'' v4 1 c.cut.cells)) := fun g w' hB => by
    refine (To_any 1 [c] (some ⟨g, 0, none⟩) 1 (fun _ => True) w' ⟨⟨rfl, fun _ => ⟨_, rfl, trivial, fun j x hx => ?_⟩⟩, rfl⟩ (by omega)).mono ?_
    · rw [Addr.add_mid, Nat.zero_add, hB.cell, List.getElem?_toArray]
      simpa using hx
    · rintro e w'' ⟨v4, v5, he, h4, _⟩
      exact ⟨v4, v5, he, by simpa using h4⟩
  obtain ⟨CX, hCX⟩ : ∃ CX, CX = c.cells := ⟨_, rfl⟩
  rw [← hCX] at gc3 CC CLn ICv TA
  have hG0 : Value.agg c.cells.toArray = .agg CX.toArray := by rw [hCX]
  rw [hG0]
  clear hCX hG0
  go_enter Tryd.func9, Tryd.ntmps9
  go_wp2_with (refine wpList_boxBlk rfl 42 (.tmp 0) rfl CX.toArray rfl ?_)
  intro w1 n1
  have B1 := Lib.hid n1.blk
  have F1 := Lib.hid n1.fr
  clear n1
  generalize w.heap.size = g1 at *
  go_wp2_with fail
  refine (CK.out _ F1.out).mono ?_
  rintro e w2 ⟨rfl, f2⟩
  have F2 := Lib.hid (F1.out.trans f2)
  have B2 := Lib.hid (B1.out.fr f2 (fun x => x))
  clear f2 F1 B1
  go_wp2_with (refine wpList_load_add rfl 42 (.tmp 1) rfl ⟨g1, 0, none⟩ rfl CX _ ?hcc2 Tryd.underlying42 rfl ICv.out (Held.go ?hold2))
  case hcc2 => exact fun j x hx => by rw [Addr.add_mid, Nat.zero_add, B2.out.cell]; exact CC.out j x hx
  unfold Held
  refine wpList_buildSlice rfl 22 42 1 #[(0, .tmp 17)] rfl CX.toArray ic zeroC Tryd.underlying22 hic hzc gc1.out gc2.out (by simp only [List.map_toArray, List.map_cons, List.map_nil]; exact gc3.out) ?_
  have B3 := Lib.hid (Blk.new w2 42 CX.toArray)
  have F3 : Hid (Fr Nothing w (w2.alloc (.cells CX.toArray 42))) := F2.out.trans ((Fr.refl Nothing w2).alloc _)
  generalize w2.heap.size = g3 at *
  generalize w2.alloc (.cells CX.toArray 42) = w3 at *
  clear F2 B2
  go_wp2_with fail
  refine (TA.out _ _ B3.out).mono ?_
  rintro e w4 ⟨v4, v5, rfl, hG⟩
  have F0 := Lib.hid (F3.out.trans hG.fr0)
  obtain ⟨A4, n4, c4, rfl, H4, _⟩ := own_slice hG.own
  obtain rfl : n4 = 1 := H4.out
  have hrd := Rd.of_own hG.own
  obtain ⟨A0, rfl, _, hcell⟩ := hrd.2 (by omega)
  have NM : Hid (∀ w', Fr Nothing w4 w' → ∀ j x, c.cut.nm.cells[j]? = some x → w'.cell? (A0.add j) = some x) := fun w' hf j x hx => by
    refine hf.cellSome (hcell j x ?_) (fun x => x)
    rw [CV.cells, List.getElem?_append_left (List.getElem?_eq_some_iff.1 hx).1]
    exact hx
  have FW := F0
  clear F0 F3 hG H4 hrd hcell TA B3 ICv CLn CC gc1 gc2 gc3 hic hzc hc1 hc2
  have F0 := Lib.hid (Fr.refl Nothing w4)
  go_wp2_with (refine wpList_load_add rfl 36 (.tmp 26) rfl A0 rfl c.cut.nm.cells _ ?hn26 Tryd.underlying36 rfl infoName (Held.go ?ho26))
  case hn26 => first | exact NM.out _ F0.out | (simp only [Addr.add]; exact NM.out _ F0.out)
  unfold Held
  go_wp2_with fail
  refine (Get_nil c.cut.nm _).mono ?_
  rintro e w26 ⟨rfl, f26⟩
  have F26 := Lib.hid (F0.out.trans f26)
  clear f26 F0
  have F0 := F26
  clear F26
  go_wp2_with (refine wpList_load_add rfl 36 (.tmp 35) rfl A0 rfl c.cut.nm.cells _ ?hn35 Tryd.underlying36 rfl infoName (Held.go ?ho35))
  case hn35 => first | exact NM.out _ F0.out | (simp only [Addr.add]; exact NM.out _ F0.out)
  unfold Held
  go_wp2_with fail
  refine (With_nil c.cut.nm _ _).mono ?_
  rintro e w35 ⟨rfl, f35⟩
  have F35 := Lib.hid (F0.out.trans f35)
  clear f35 F0
  have F0 := F35
  clear F35
  go_wp2_with (refine wpList_load_add rfl 36 (.tmp 44) rfl A0 rfl c.cut.nm.cells _ ?hn44 Tryd.underlying36 rfl infoName (Held.go ?ho44))
  case hn44 => first | exact NM.out _ F0.out | (simp only [Addr.add]; exact NM.out _ F0.out)
  unfold Held
  go_wp2_with fail
  refine (Without_nil c.cut.nm _).mono ?_
  rintro e w44 ⟨rfl, f44⟩
  have F44 := Lib.hid (F0.out.trans f44)
  clear f44 F0
  have F0 := F44
  clear F44
  go_wp2_with fail
  refine (Apply_nil _ _).mono ?_
  rintro e w5 ⟨rfl, f5⟩
  have F5 := Lib.hid (F0.out.trans f5)
  clear f5 F0
  go_wp2_with fail
  refine (Len_nil _).mono ?_
  rintro e w60 ⟨rfl, f5⟩
  have F60 := Lib.hid (F5.out.trans f5)
  clear f5 F5
  have F5 := F60
  clear F60
  go_wp2_with fail
  refine (Bytes_nil _).mono ?_
  rintro e w61 ⟨rfl, f5⟩
  have F61 := Lib.hid (F5.out.trans f5)
  clear f5 F5
  have F5 := F61
  clear F61
  go_wp2_with fail
  refine (Names_nil _).mono ?_
  rintro e w62 ⟨rfl, f5⟩
  have F62 := Lib.hid (F5.out.trans f5)
  clear f5 F5
  have F5 := F62
  clear F62
  go_wp2_with fail
  refine (Kind_nil 1 _).mono ?_
  rintro e w63 ⟨rfl, f5⟩
  have F63 := Lib.hid (F5.out.trans f5)
  clear f5 F5
  have F5 := F63
  clear F63
  go_wp2_with fail
  refine (New_any _).mono ?_
  rintro e w64 ⟨s4, rfl, _, f5⟩
  have F64 := Lib.hid (F5.out.trans f5)
  clear f5 F5
  have F5 := F64
  clear F64
  go_wp2_with fail
  refine (Diff_nil1 _ _).mono ?_
  rintro e w65 ⟨rfl, f5⟩
  have F65 := Lib.hid (F5.out.trans f5)
  clear f5 F5
  have F5 := F65
  clear F65
  go_wp2_with fail
  refine (New_any _).mono ?_
  rintro e w66 ⟨s6, rfl, _, f5⟩
  have F66 := Lib.hid (F5.out.trans f5)
  clear f5 F5
  have F5 := F66
  clear F66
  go_wp2_with fail
  refine (Diff_nil2 _ _).mono ?_
  rintro e w67 ⟨rfl, f5⟩
  have F67 := Lib.hid (F5.out.trans f5)
  clear f5 F5
  have F5 := F67
  clear F67
  go_wp2_with fail
  refine (Encode_nil _).mono ?_
  rintro e w68 ⟨rfl, f5⟩
  have F68 := Lib.hid (F5.out.trans f5)
  clear f5 F5
  have F5 := F68
  clear F68
  go_wp2_with fail
  refine (Digest_nil _).mono ?_
  rintro e w69 ⟨rfl, f5⟩
  have F69 := Lib.hid (F5.out.trans f5)
  clear f5 F5
  have F5 := F69
  clear F69
  go_wp2_with fail
  rw [q0.out]
  simp only [Result.andThen_ok]
  go_simp
  go_wp2_with fail
  refine (Equal_nil _).mono ?_
  rintro e w70 ⟨rfl, f5⟩
  have F70 := Lib.hid (F5.out.trans f5)
  clear f5 F5
  have F5 := F70
  clear F70
  go_wp2_with fail
  refine (New_any _).mono ?_
  rintro e w71 ⟨s7, rfl, _, f5⟩
  have F71 := Lib.hid (F5.out.trans f5)
  clear f5 F5
  have F5 := F71
  clear F71
  go_wp2_with fail
  refine (Equal_nil1 _ _).mono ?_
  rintro e w72 ⟨rfl, f5⟩
  have F72 := Lib.hid (F5.out.trans f5)
  clear f5 F5
  have F5 := F72
  clear F72
  have F9 := Lib.hid (FW.out.trans F5.out)
  go_wp2
  go_ret
  exact ⟨rfl, F9.out⟩
end Go.Proofs.YtpnchdgplpdefaaDoor
