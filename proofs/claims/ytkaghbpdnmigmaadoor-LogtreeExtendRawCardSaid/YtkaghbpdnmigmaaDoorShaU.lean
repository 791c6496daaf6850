/- sha256.Join. -/
import Derived.Test.YtkaghbpdnmigmaaDoorShaJ
namespace Go.Proofs.YtkaghbpdnmigmaaDoor
open Go.RowKit

theorem JoinK_len (tag : UInt8) (ps : List ByteArray) (k : Nat) (p : ByteArray) (h : ps[k]? = some p) : (JoinK tag ps (k + 1)).length = (JoinK tag ps k).length + (4 + p.size) := by
  rw [JoinK_succ tag ps k p h, List.length_append, List.length_append, txL_length]
  have : (wBytes p.size).length = 4 := rfl
  omega

set_option maxRecDepth 100000 in
set_option maxHeartbeats 1000000 in
theorem Join_any (tag : UInt8) (ps : List ByteArray) (A : Option Addr) (n c : Nat) (S : Nat → Prop) (w : World) (hR : Rd w S 1 A n (ps.map strCell)) (hn : n ≤ 255) (hL : ∀ k, (JoinK tag ps k).length ≤ 1099511627776) (h4 : ∀ p ∈ ps, p.size < 4294967296) :
    Calls Tryd.prog 70 #[bvI tag, .slice A n c] w (Joined w ⟨(joinL tag (ps.map txL)).toArray⟩) := by
  obtain ⟨i0, hi, hz0, hz1, hz2⟩ := info_parts info_u8'
  have HR := Lib.hid hR
  have HPL : Hid (ps.length = n) := by have := hR.1; simpa [Hid] using this
  have HL := Lib.hid hL
  have H4 := Lib.hid h4
  have HJ : Hid (joinL tag (ps.map txL) = JoinK tag ps n) := (JoinK_all tag ps n (by rw [HPL.out]; exact Nat.le_refl _)).symm
  generalize hRS : (⟨(joinL tag (ps.map txL)).toArray⟩ : ByteArray) = RS at *
  have HRS := Lib.hid hRS
  clear hRS
  clear hR hL h4
  unfold bvI
  have hd : decide ((255 : Int) < (n : Int)) = false := decide_eq_false (by omega)
  go_enter Tryd.func70, Tryd.ntmps70
  go_wp2
  go_loopw [18, 6] (fun i sz wr => ∃ k : Nat, k ≤ n ∧ i = .int .i64 k ∧ sz = .int .i64 ((JoinK tag ps k).length : Nat) ∧ wr = w) (fun i _ _ => n - (intOf i).toNat)
  case atStart => exact ⟨0, by omega, rfl, rfl, rfl⟩
  case round =>
    obtain ⟨k, hk, rfl, rfl, rfl⟩ := hrel
    by_cases hlt : k < n
    · obtain ⟨ad, u, rfl, _, hu, hcell⟩ := HR.out.at_ hlt
      obtain ⟨p, hp, rfl⟩ : ∃ p, ps[k]? = some p ∧ u = strCell p := by
        rw [List.getElem?_map] at hu
        cases h : ps[k]? with
        | none => rw [h] at hu; cases hu
        | some p => rw [h] at hu; exact ⟨p, rfl, (Option.some.inj hu).symm⟩
      have HS := Lib.hid (JoinK_len tag ps k p hp)
      have hb := HL.out (k + 1)
      rw [HS.out] at hb
      unfold strCell at hcell
      clear hu hp
      have hkI : (k : Int) < (n : Int) := by omega
      generalize (JoinK tag ps k).length = L at *
      go_wp2
      go_roundw
      case rel => exact ⟨k + 1, by omega, by go_num, by rw [HS.out]; go_num, by first | rfl | trivial⟩
      case measure => simp [intOf]; omega
    · have hdk : decide ((k : Int) < (n : Int)) = false := decide_eq_false (by omega)
      have hdn : decide (k < n) = false := decide_eq_false (by omega)
      have hb := HL.out k
      obtain ⟨Z, hZ⟩ : ∃ Z, Z = (JoinK tag ps k).length := ⟨_, rfl⟩
      rw [← hZ] at hb ⊢
      clear hZ hk hlt
      go_wp2_with (at_make; refine wpList_make_own _ rfl _ _ 79 rfl 0 5 i0 (.int .u8 0) 1 Tryd.underlying79 hi hz0 hz1 _ _ _ Z rfl rfl ?c0 ?c1 ?c2 (Nat.zero_le _) ?_)
      case c0 => rfl
      case c1 => rw [hz2]; omega
      case c2 => unfold maxLen; omega
      intro w1 hown hgr
      have F1 : Hid (Fr Nothing wr w1) := (Fr.grown hgr).mono (fun k _ hk => by cases hk)
      have H1 := Lib.hid hown
      clear hown hgr
      go_wp2_with (at_builtin; refine wpList_app1 _ rfl _ _ 79 rfl 5 i0 _ 1 1 Tryd.underlying79 hi hz0 hz1 hz2 rfl (by omega) _ _ _ rfl H1.out 2 _ _ rfl rfl rfl ?e1 ?e2 (by omega) ?_)
      case e1 => simp [Value.oneCell']
      case e2 => omega
      intro v2 w2 hg2
      have G0 : Hid (GrB wr (.slice none 0 0) w2 v2 (JoinK tag ps 0)) := by
        have e : (JoinK tag ps 0).map bvI = [Value.int .u8 (tag.toNat : Int), .int .u8 (n : Int)] := by
          show [bvI tag, bvI (oct ps.length)] = _
          rw [oct_bvI, HPL.out, Nat.mod_eq_of_lt (by omega)]
          rfl
        have h := Grew.fresh F1.out (fun k hk => by simp [Value.ownBlock] at hk; omega) hg2
        simp only [Hid, GrB]
        rw [e]
        simpa [JoinK] using h
      clear hg2 H1 F1
      obtain ⟨w, hw⟩ : ∃ x, x = wr := ⟨_, rfl⟩
      subst hw
      clear hdk hdn hb
      go_wp2
      go_loopw [9, 39] (fun v i wr => ∃ k : Nat, k ≤ n ∧ i = .int .i64 k ∧ GrB w (.slice none 0 0) wr v (JoinK tag ps k)) (fun _ i _ => n - (intOf i).toNat)
      case atStart => exact ⟨0, by omega, rfl, G0.out⟩
      case round =>
        obtain ⟨k, hk, rfl, hg⟩ := hrel
        have KG := Lib.hid hg
        obtain ⟨A1, n1, c1, rfl, Hn1, _⟩ := own_slice hg.own
        clear hg G0
        by_cases hlt : k < n
        · obtain ⟨ad, u, rfl, _, hu, hcw⟩ := HR.out.at_ hlt
          obtain ⟨p, hp, rfl⟩ : ∃ p, ps[k]? = some p ∧ u = strCell p := by
            rw [List.getElem?_map] at hu
            cases h : ps[k]? with
            | none => rw [h] at hu; cases hu
            | some p => rw [h] at hu; exact ⟨p, rfl, (Option.some.inj hu).symm⟩
          have HS := Lib.hid (JoinK_succ tag ps k p hp)
          have hp4 : p.size < 4294967296 := H4.out p (List.mem_of_getElem? hp)
          have HLk := Lib.hid (HL.out k)
          have HLk1 : Hid ((JoinK tag ps k).length + 4 + p.size ≤ 1099511627776) := by
            have h := HL.out (k + 1)
            rw [HS.out, List.length_append, List.length_append, txL_length] at h
            simp only [Hid]
            have : (wBytes p.size).length = 4 := rfl
            omega
          unfold strCell at hcw
          have hcell := KG.out.fr0.cellSome hcw (fun x => x)
          clear hu hp
          have hkI : (k : Int) < (n : Int) := by omega
          go_wp2_with (at_builtin; refine wpList_app1 _ rfl _ _ 79 rfl 5 i0 _ 1 1 Tryd.underlying79 hi hz0 hz1 hz2 rfl (by omega) _ _ _ rfl KG.out.own 4 _ _ rfl rfl rfl ?f1 ?f2 (by omega) ?_)
          case f1 => simp [Value.oneCell']
          case f2 => have := HLk1.out; omega
          intro v2 w2 hg2
          have G2 : Hid (GrB w (.slice none 0 0) w2 v2 (JoinK tag ps k ++ wBytes p.size)) := by
            have h := KG.out.trans hg2
            rw [four_list p.size hp4] at h
            simpa [Hid, GrB, wBytes] using h
          obtain ⟨A2, n2, c2, rfl, Hn2, _⟩ := own_slice G2.out.own
          have hcell2 := G2.out.fr0.cellSome hcw (fun x => x)
          clear hg2 hcell KG
          go_wp2_with (at_builtin; refine wpList_app_string _ rfl _ _ 79 9 rfl 5 i0 Tryd.underlying79 Tryd.underlying9 hi hz0 hz1 hz2 _ _ _ rfl G2.out.own p rfl ?f3 ?_)
          case f3 =>
            have := HLk1.out
            have e4 : (wBytes p.size).length = 4 := rfl
            rw [List.length_append]; omega
          intro v3 w3 hg3
          have G3 : Hid (GrB w (.slice none 0 0) w3 v3 (JoinK tag ps (k + 1))) := by
            have h := G2.out.trans hg3
            rw [strCells_bvI] at h
            simp only [Hid]
            rw [HS.out]
            simpa [GrB, txL_length, Nat.add_assoc] using h
          clear hg3 G2
          go_wp2
          go_roundw
          case rel => exact ⟨k + 1, by omega, by go_num, G3.out⟩
          case measure => simp [intOf]; omega
        · have hdk : decide ((k : Int) < (n : Int)) = false := decide_eq_false (by omega)
          have hdn : decide (k < n) = false := decide_eq_false (by omega)
          rw [show k = n by omega] at KG
          have hrd : Rd wr (Rows1 (.slice A1 n1 c1)) 1 A1 n1 ((JoinK tag ps n).map bvI) := by
            have h := KG.out.own
            have e : n1 = (JoinK tag ps n).length := by have := Hn1.out; rw [show k = n by omega] at this; exact this
            rw [← e] at h
            exact Rd.of_own h
          have hcv := run_str (P := Tryd.prog) wr 79 9 5 Tryd.underlying79 Tryd.underlying5 Tryd.underlying9 _ A1 n1 c1 _ hrd
          rw [← HJ.out, HRS.out] at hcv
          clear hrd
          go_wp2
          go_ret2
          exact ⟨rfl, KG.out.fr0⟩
end Go.Proofs.YtkaghbpdnmigmaaDoor
