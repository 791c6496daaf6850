/- State: the reference's Parse (written by genSbD.py). -/
import Derived.Test.YtpnchdgplpdefaaGreatDoorEnSaX
namespace Go.Proofs.YtpnchdgplpdefaaGreatDoor
open Go.RowKit Go.Shelf
def intsP (ps : List Part) : List Value := ps.map (fun p => Value.int .i64 (p.ord : Int))
def RParsed (w : World) (s : ByteArray) (e : Ending) (w' : World) : Prop := ∃ v a k, e = .returned (.tuple #[v, .int .i64 a, .int .i64 k]) ∧ (k == 0) = validO s ∧ Fr Nothing w w' ∧ (validO s = true → Grew 3 1 w (.slice none 0 0) w' v (ordsO s).length ((ordsO s).map (Value.int .i64)))
theorem RParsed.bad {w w' : World} {s : ByteArray} {v : Value} {a k : Int} (hv : validO s = false) (hk : k ≠ 0) (hf : Fr Nothing w w') : RParsed w s (.returned (.tuple #[v, .int .i64 a, .int .i64 k])) w' :=
 ⟨v, a, k, rfl, by rw [hv, beq_eq_false_iff_ne]; exact hk, hf, fun h => by rw [hv] at h; cases h⟩
theorem valid_bad {s : ByteArray} {pre r : List Part} {p : Part} (h : partsL s = pre ++ r) (hp : p ∈ r) (he : p.e ≠ 0) : validO s = false := by
 rw [Bool.eq_false_iff]
 intro hv
 rw [validO, List.all_eq_true] at hv
 have := hv p (by rw [h]; simp [hp])
 simp only [beq_iff_eq] at this
 exact he this
theorem valid_good {s : ByteArray} {pre : List Part} (h : partsL s = pre) (he : ∀ p ∈ pre, p.e = 0) : validO s = true := by
 rw [validO, h, List.all_eq_true]
 intro p hp
 simp only [beq_iff_eq]
 exact he p hp
theorem byte_le (b : UInt8) : (b.toNat : Int) ≤ 255 := by have := b.toNat_lt; omega
set_option maxRecDepth 100000 in
set_option maxHeartbeats 8000000 in
theorem rParse_any (s : ByteArray) (w : World) (hs : s.size ≤ 1099511627776) : Calls Tryz.prog 101 #[.string s] w (RParsed w s) := by
 obtain ⟨i0, hi0, hz0', hz1, hz2⟩ := info_parts infoIntP
 have HS := Lib.hid hs
 by_cases hz : s.size = 0
 ·have hse : s = ByteArray.empty := by
   cases s with
   | mk d =>
    have hd : d.size = 0 := hz
    rw [show d = #[] from Array.eq_empty_of_size_eq_zero hd]
    rfl
  subst hse
  clear hz hs
  go_enter Tryz.func101, Tryz.ntmps101
  go_wp2
  go_ret3
  exact ⟨_, _, _, rfl, rfl, Fr.refl _ _, fun _ => ⟨⟨rfl, .inl ⟨rfl, rfl⟩⟩, Fr.refl _ _, fun _ hk => .inl hk⟩⟩
 have hPL : Hid (partsL s = partsR 8 0 s.toList) := by simp only [Hid]; rw [partsL, if_neg hz]
 have tne : s.toList.isEmpty = false := by
  rw [List.isEmpty_eq_false_iff]
  intro h
  have := congrArg List.length h
  rw [toList_size] at this
  exact hz (by simpa using this)
 clear hz hs
 go_enter Tryz.func101, Tryz.ntmps101
 go_wp2
 clear tne
 go_loopw [5, 6] (fun v i wr => ∃ (k at_ : Nat) (pre : List Part), k ≤ 8 ∧ at_ ≤ s.size ∧ partsL s = pre ++ partsR (8 - k) at_ (s.toList.drop at_) ∧ (∀ p ∈ pre, p.e = 0) ∧ pre.length = k ∧ i = .int .i64 (at_ : Nat) ∧ Grew 3 1 w (.slice none 0 0) wr v k (intsP pre)) (fun _ i _ => s.size + 1 - (intOf i).toNat)
 case atStart => exact ⟨0, 0, [], by omega, by omega, by rw [hPL.out]; rfl, by simp, rfl, rfl, Grew.start ⟨rfl, .inl ⟨rfl, rfl⟩⟩⟩
 case round =>
 obtain ⟨k, at_, pre, hk, ha, hpl, hpz, hpk, rfl, hG⟩ := hrel
 have KG := Lib.hid hG
 obtain ⟨A1, m1, c1, rfl, H1, _⟩ := own_slice hG.own
 have HPL := Lib.hid hpl
 have HPZ := Lib.hid hpz
 have HPK := Lib.hid hpk
 have FW := Lib.hid hG.fr0
 obtain ⟨P, E, hPE⟩ : ∃ P E, firstP k at_ (s.toList.drop at_) = (P, E) := ⟨_, _, rfl⟩
 have HPA := Lib.hid (partsR_at s k at_ hk ha P E hPE)
 have HBAD : Hid (P.e ≠ 0 → validO s = false) := fun he => by
  refine valid_bad (p := P) HPL.out ?_ he
  rcases HPA.out with ⟨_, h⟩ | ⟨_, _, _, _, ⟨_, h⟩ | ⟨_, _, _, _, h⟩ | ⟨_, _, _, _, h⟩⟩ <;> (rw [h]; simp)
 obtain ⟨l, hl⟩ : ∃ l, l = s.toList.drop at_ := ⟨_, rfl⟩
 rw [← hl] at hPE
 obtain ⟨ds, hds⟩ : ∃ ds, ds = runD 7 l := ⟨_, rfl⟩
 have HDS := Lib.hid hds
 have HAT : Hid (∀ i b, l[i]? = some b → ∃ h : at_ + i < s.size, s[at_ + i] = b) := fun i b hb => by
  rw [hl, List.getElem?_drop] at hb
  exact str_at hb
 have HAB : Hid (∀ i, at_ + i < s.size → ∃ b, l[i]? = some b) := fun i hi => by
  rw [hl, List.getElem?_drop]
  exact ⟨_, List.getElem?_eq_getElem (by rw [toList_size]; exact hi)⟩
 have HLN : Hid (l.length + at_ = s.size) := by simp only [Hid]; rw [hl, List.length_drop, toList_size]; omega
 have HFP : Hid ((P, E) = if k = 8 then (⟨0, at_, 9⟩, at_) else if l = [] then (⟨0, at_, 4⟩, at_) else if ds = [] then (⟨0, at_, 6⟩, at_) else if l[0]? = some 48 then (⟨0, at_, 3⟩, at_) else if 6 < ds.length then (⟨0, at_, 2⟩, at_) else (⟨numD ds, at_, 0⟩, at_ + ds.length)) := by simp only [Hid]; rw [← hPE, hds]; rfl
 have L1 := Lib.hid (runD_length 7 l)
 have LST := Lib.hid (runD_step 7 l)
 have LTK := Lib.hid (runD_take 7 l)
 have LAL := Lib.hid (runD_all 7 l)
 rw [← hds] at L1 LST LTK LAL
 have HA := Lib.hid ha
 have HK8 := Lib.hid hk
 have na : at_ ≤ 1099511627776 := by have := HS.out; omega
 clear hG hpl hpz hpk hPE hl hds ha
 by_cases h8 : k = 8
 ·have tm : ((m1 : Int) == 8) = true := by rw [beq_iff_eq]; have := H1.out; omega
  have hv : Hid (validO s = false) := HBAD.out (by have h := HFP.out; rw [if_pos h8] at h; simp only [Prod.mk.injEq] at h; rw [h.1]; simp)
  clear h8 hk
  go_wp2
  go_ret3
  exact RParsed.bad hv.out (by decide) FW.out
 have tm : ((m1 : Int) == 8) = false := by rw [beq_eq_false_iff_ne]; have := H1.out; omega
 by_cases hle : l = []
 ·have t1 : ((at_ : Int) == (s.size : Int)) = true := by rw [beq_iff_eq]; have h := HLN.out; rw [hle] at h; simp at h; omega
  have hv : Hid (validO s = false) := HBAD.out (by have h := HFP.out; rw [if_neg h8, if_pos hle] at h; simp only [Prod.mk.injEq] at h; rw [h.1]; simp)
  clear h8 hk hle
  go_wp2
  go_ret3
  exact RParsed.bad hv.out (by decide) FW.out
 have hlt0 : at_ < s.size := by
  have h := HLN.out
  have : l.length ≠ 0 := fun e => hle (List.length_eq_zero_iff.1 e)
  omega
 have t1 : ((at_ : Int) == (s.size : Int)) = false := by rw [beq_eq_false_iff_ne]; omega
 have i1 : (at_ : Int) < (s.size : Int) := by omega
 have i2 : (0 : Int) ≤ (at_ : Int) := by omega
 obtain ⟨z, hz0⟩ := HAB.out 0 (by omega)
 obtain ⟨_, hz1'⟩ := HAT.out 0 z hz0
 have i3 : s[at_] = z := hz1'
 have HZ := Lib.hid hz0
 clear hz0 hz1'
 by_cases hza' : z.toNat < 48
 ·have hza : ¬ 48 ≤ z.toNat := by omega
  have t2 : decide ((z.toNat : Int) < 48) = true := decide_eq_true (by omega)
  have t2' : (z.toNat : Int) < 48 := by omega
  have hdn : ds = [] := by
   have h : ¬ 0 < ds.length := (fun hp => by
    obtain ⟨_, b, hb, hd⟩ := (LST.out 0 (by omega)).1 hp
    rw [HZ.out] at hb
    cases hb
    have := isD_iff hd
    omega)
   exact List.length_eq_zero_iff.1 (by omega)
  have hv : Hid (validO s = false) := HBAD.out (by have h := HFP.out; rw [if_neg h8, if_neg hle, if_pos hdn] at h; simp only [Prod.mk.injEq] at h; rw [h.1]; simp)
  clear h8 hk hle hza hza' hdn
  go_wp2
  go_ret3
  exact RParsed.bad hv.out (by decide) FW.out
 have hza : 48 ≤ z.toNat := by omega
 clear hza'
 have t2 : decide ((z.toNat : Int) < 48) = false := decide_eq_false (by omega)
 have t2' : ¬ (z.toNat : Int) < 48 := by omega
 by_cases hzb' : 57 < z.toNat
 ·have hzb : ¬ z.toNat ≤ 57 := by omega
  have t3 : decide ((57 : Int) < (z.toNat : Int)) = true := decide_eq_true (by omega)
  have t3' : (57 : Int) < (z.toNat : Int) := by omega
  have hdn : ds = [] := by
   have h : ¬ 0 < ds.length := (fun hp => by
    obtain ⟨_, b, hb, hd⟩ := (LST.out 0 (by omega)).1 hp
    rw [HZ.out] at hb
    cases hb
    have := isD_iff hd
    omega)
   exact List.length_eq_zero_iff.1 (by omega)
  have hv : Hid (validO s = false) := HBAD.out (by have h := HFP.out; rw [if_neg h8, if_neg hle, if_pos hdn] at h; simp only [Prod.mk.injEq] at h; rw [h.1]; simp)
  clear h8 hk hle hza hzb hzb' hdn
  go_wp2
  go_ret3
  exact RParsed.bad hv.out (by decide) FW.out
 have hzb : z.toNat ≤ 57 := by omega
 clear hzb'
 have t3 : decide ((57 : Int) < (z.toNat : Int)) = false := decide_eq_false (by omega)
 have t3' : ¬ (57 : Int) < (z.toNat : Int) := by omega
 have hdn : ds ≠ [] := by
  intro e
  have h := (LST.out 0 (by omega)).2 ⟨by omega, z, HZ.out, by simp [isD, hza, hzb]⟩
  rw [e] at h
  simp at h
 by_cases hz48 : z.toNat = 48
 ·have t4 : ((z.toNat : Int) == 48) = true := by rw [beq_iff_eq]; omega
  have hz48' : l[0]? = some 48 := by rw [HZ.out, UInt8.toNat_inj.1 (show z.toNat = (48 : UInt8).toNat from hz48)]
  have hv : Hid (validO s = false) := HBAD.out (by have h := HFP.out; rw [if_neg h8, if_neg hle, if_neg hdn, if_pos hz48'] at h; simp only [Prod.mk.injEq] at h; rw [h.1]; simp)
  clear h8 hk hle hza hzb hdn hz48 hz48'
  go_wp2
  go_ret3
  exact RParsed.bad hv.out (by decide) FW.out
 have t4 : ((z.toNat : Int) == 48) = false := by rw [beq_eq_false_iff_ne]; omega
 have hz48' : l[0]? ≠ some 48 := by
  rw [HZ.out]
  intro e
  cases e
  exact hz48 rfl
 have HFQ : Hid ((P, E) = if 6 < ds.length then (⟨0, at_, 2⟩, at_) else (⟨numD ds, at_, 0⟩, at_ + ds.length)) := by
  have h := HFP.out
  rw [if_neg h8, if_neg hle, if_neg hdn, if_neg hz48'] at h
  exact h
 have LDP : Hid (0 < ds.length) := List.length_pos_iff.2 hdn
 clear h8 hk hle hza hzb hdn hz48 hz48' HFP
 go_wp2
 go_loopw [7, 8] (fun n i w2 => ∃ j : Nat, j ≤ ds.length ∧ i = .int .i64 ((at_ + j : Nat) : Int) ∧ n = .int .i64 ((numD (ds.take j) : Nat) : Int) ∧ wr = w2) (fun _ i _ => at_ + 8 - (intOf i).toNat)
 case atStart => exact ⟨0, Nat.zero_le _, rfl, rfl, rfl⟩
 case round =>
 obtain ⟨j, hj, rfl, rfl, rfl⟩ := hrel
 have hstep := LST.out j hj
 obtain ⟨q, hq⟩ : ∃ q, q = at_ + j := ⟨_, rfl⟩
 rw [← hq]
 obtain ⟨N, hN⟩ : ∃ N, N = numD (ds.take j) := ⟨_, rfl⟩
 rw [← hN]
 have HN := Lib.hid hN
 clear hN t1 t2 t2' t3 t3' t4 tm i1 i2 i3
 obtain ⟨q7, hq7⟩ : ∃ q7 : Int, (at_ : Int) + 7 = q7 := ⟨_, rfl⟩
 have HQ7 := Lib.hid hq7
 have L7 := L1.out.1
 by_cases hlt : j < ds.length
 ·obtain ⟨h7, b, hb, hbd⟩ := hstep.1 hlt
  obtain ⟨hqs, hqb⟩ := HAT.out j b hb
  have hlt' := Lib.hid hlt
  have HQ : Hid (q = at_ + j) := hq
  have HB := Lib.hid hb
  have u0 : (q : Int) < (s.size : Int) := by omega
  have u0' : q < s.size := by omega
  have u2 : (0 : Int) ≤ (q : Int) := by omega
  have u3 : s[q] = b := by subst hq; exact hqb
  have bd := isD_iff hbd
  have u4 : decide ((48 : Int) ≤ (b.toNat : Int)) = true := decide_eq_true (by omega)
  have u4' : (48 : Int) ≤ (b.toNat : Int) := by omega
  have u5 : decide ((b.toNat : Int) ≤ 57) = true := decide_eq_true (by omega)
  have u5' : (b.toNat : Int) ≤ 57 := by omega
  have u6 : decide ((q : Int) < q7) = true := decide_eq_true (by omega)
  have HNL : Hid (N * 10 + (b.toNat - 48) = numD (ds.take (j + 1)) ∧ N < 10000000) := by
   have hj2 : ds[j]? = some b := by
    rw [LTK.out, List.getElem?_take_of_lt hlt]
    exact hb
   constructor
   ·rw [List.take_add_one, hj2, Option.toList_some, numD_snoc, ← HN.out]
   ·rw [HN.out]
    refine Nat.lt_of_lt_of_le (numD_lt _ (ds.take j) rfl (fun x hx => LAL.out x (List.mem_of_mem_take hx))) ?_
    refine Nat.le_trans (Nat.pow_le_pow_right (by omega) (show (ds.take j).length ≤ 7 by rw [List.length_take]; omega)) (by decide)
  have nb := HNL.out.2
  have HBD := Lib.hid bd
  have nq : q ≤ 1099511627776 := by have := HS.out; omega
  obtain ⟨e1, he1⟩ : ∃ e1 : Int, 10 * (N : Int) = e1 := ⟨_, rfl⟩
  have ne1 : 0 ≤ e1 ∧ e1 < 100000000 := by omega
  obtain ⟨e2, he2⟩ : ∃ e2 : Int, e1 + (b.toNat : Int) = e2 := ⟨_, rfl⟩
  have nbt := byte_le b
  have ne2 : 48 ≤ e2 ∧ e2 < 100001000 := by omega
  obtain ⟨N', hN'⟩ : ∃ N' : Nat, e2 - 48 = (N' : Int) := ⟨(e2 - 48).toNat, by omega⟩
  have HN' : Hid (N' = numD (ds.take (j + 1))) := by
   have h := HNL.out.1
   simp only [Hid]
   omega
  clear hq hqb hqs hb hbd bd hstep hlt h7 hj
  go_wp2
  go_roundw
  case rel =>
   have h1 := HQ.out
   have h3 := HN'.out
   exact ⟨j + 1, hlt'.out, by go_num, by rw [← h3], by first | rfl | trivial⟩
  case measure =>
   have h1 := HQ.out
   have h2 := hlt'.out
   have h3 := L1.out.1
   simp [intOf]
   omega
 obtain rfl : j = ds.length := by omega
 have HQ : Hid (q = at_ + ds.length) := hq
 obtain rfl : N = numD ds := by rw [HN.out, List.take_length]
 have nN : Hid (numD ds < 10000000) := by
  simp only [Hid]
  exact Nat.lt_of_lt_of_le (numD_lt _ ds rfl LAL.out) (Nat.le_trans (Nat.pow_le_pow_right (by omega) L7) (by decide))
 have nn := nN.out
 have nq : q ≤ 1099511627783 := by have := HS.out; omega
 have HD7 : Hid (ds.length = 7 → validO s = false) := fun h7 => HBAD.out (by have h := HFQ.out; rw [if_pos (by omega)] at h; simp only [Prod.mk.injEq] at h; rw [h.1]; simp)
 have HD6 : Hid (ds.length ≤ 6 → P = ⟨numD ds, at_, 0⟩ ∧ E = q) := fun h6 => by
  have h := HFQ.out
  rw [if_neg (by omega)] at h
  simp only [Prod.mk.injEq] at h
  exact ⟨h.1, by rw [h.2, HQ.out]⟩
 have HBY : Hid (q < s.size → ∃ b, (∃ h : q < s.size, s[q] = b) ∧ (ds.length ≤ 6 → isD b = false)) := fun h1 => by
  obtain ⟨b, hb⟩ := HAB.out ds.length (by omega)
  obtain ⟨h4, h5⟩ := HAT.out _ _ hb
  refine ⟨b, ⟨h1, by subst hq; exact h5⟩, fun h6 => ?_⟩
  cases h7 : isD b
  ·rfl
  ·exact absurd (hstep.2 ⟨by omega, b, hb, h7⟩) hlt
 clear hstep hq hlt hj HN LST LTK LAL HAB HDS
 by_cases h1 : q < s.size
 ·have h1' := Lib.hid h1
  have u0 : (q : Int) < (s.size : Int) := by omega
  have u2 : (0 : Int) ≤ (q : Int) := by omega
  have uE : ((q : Int) == (s.size : Int)) = false := by rw [beq_eq_false_iff_ne]; omega
  obtain ⟨b, ⟨_, hbq0⟩, hbd⟩ := HBY.out h1
  have hbq := Lib.hid hbq0
  have u3 : s[q] = b := hbq0
  have HBDn := Lib.hid hbd
  clear hbd hbq0
  have nbt := byte_le b
  by_cases hb1 : 48 ≤ b.toNat
  ·have u4 : decide ((48 : Int) ≤ (b.toNat : Int)) = true := decide_eq_true (by omega)
   have u4' : (48 : Int) ≤ (b.toNat : Int) := by omega
   by_cases hb2 : b.toNat ≤ 57
   ·have u5 : decide ((b.toNat : Int) ≤ 57) = true := decide_eq_true (by omega)
    have u5' : (b.toNat : Int) ≤ 57 := by omega
    have h7 : ds.length = 7 := by
     by_cases h6 : ds.length ≤ 6
     ·have := HBDn.out h6
      simp [isD, hb1, hb2] at this
     ·omega
    have h7' := Lib.hid h7
    have u6 : decide ((q : Int) < q7) = false := decide_eq_false (by have := HQ.out; omega)
    have t7 : ((q : Int) == q7) = true := by rw [beq_iff_eq]; have := HQ.out; have := h7'.out; omega
    clear hb1 hb2 h7 h1
    go_wp2
    go_ret3
    exact RParsed.bad (HD7.out h7'.out) (by decide) FW.out
   ·have u5 : decide ((b.toNat : Int) ≤ 57) = false := decide_eq_false (by omega)
    have u5' : ¬ (b.toNat : Int) ≤ 57 := by omega
    by_cases h7 : ds.length = 7
    ·have h7' := Lib.hid h7
     have t7 : ((q : Int) == q7) = true := by rw [beq_iff_eq]; have := HQ.out; have := h7'.out; omega
     clear hb1 hb2 h7 h1
     go_wp2
     go_ret3
     exact RParsed.bad (HD7.out h7'.out) (by decide) FW.out
    ·have h6' : Hid (ds.length ≤ 6) := by simp only [Hid]; omega
     clear h7 h1
     have t7 : ((q : Int) == q7) = false := by rw [beq_eq_false_iff_ne]; have := HQ.out; have := h6'.out; omega
     obtain ⟨hP, hE⟩ := HD6.out h6'.out
     have HP := Lib.hid hP
     have HE := Lib.hid hE
     clear hP hE
     go_wp2_with (at_builtin; refine wpList_app1 _ rfl _ _ 149 rfl 3 i0 (.int .i64 0) 1 8 Tryz.underlying149 hi0 hz0' hz1 hz2 rfl (by omega) _ _ _ rfl KG.out.own 1 _ _ rfl rfl rfl ?e1 ?e2 (by omega) ?_)
     case e1 => simp [Value.oneCell']
     case e2 => have := HK8.out; omega
     intro v2 y2 hG
     have KG2 : Hid (Grew 3 1 w (.slice none 0 0) y2 v2 (k + 1) (intsP (pre ++ [P]))) := by
      have h := KG.out.trans hG
      rw [intsP, List.map_append]
      rw [HP.out]
      exact h
     clear hG
     obtain ⟨A2, m2, c2, rfl, _, _⟩ := own_slice KG2.out.own
     have t8 : ((b.toNat : Int) == 46) = false := by rw [beq_eq_false_iff_ne]; omega
     have hb46 : Hid (b.toNat ≠ 46) := by simp only [Hid]; omega
     go_wp2
     go_ret3
     have hv : validO s = false := by
      rcases HPA.out with ⟨h1, h⟩ | ⟨_, _, _, _, ⟨h2, h⟩ | ⟨b', h2, h3, h4, h⟩ | ⟨b', h2, h3, h4, h⟩⟩
      ·rw [HP.out] at h1; exact absurd rfl h1
      ·have := HE.out; have := h1'.out; omega
      ·exact valid_bad (p := ⟨0, E, 6⟩) HPL.out (by rw [h]; simp) (by simp)
      ·exfalso
       apply hb46.out
       have e := HE.out
       subst e
       rw [← h4, ← h3, hbq.out]
     exact RParsed.bad hv (by decide) KG2.out.fr0
  ·have u4 : decide ((48 : Int) ≤ (b.toNat : Int)) = false := decide_eq_false (by omega)
   have u4' : ¬ (48 : Int) ≤ (b.toNat : Int) := by omega
   by_cases h7 : ds.length = 7
   ·have h7' := Lib.hid h7
    have t7 : ((q : Int) == q7) = true := by rw [beq_iff_eq]; have := HQ.out; have := h7'.out; omega
    clear hb1 h7 h1
    go_wp2
    go_ret3
    exact RParsed.bad (HD7.out h7'.out) (by decide) FW.out
   ·have h6' : Hid (ds.length ≤ 6) := by simp only [Hid]; omega
    clear h7 h1
    by_cases hb4 : b.toNat = 46
    ·have t7 : ((q : Int) == q7) = false := by rw [beq_eq_false_iff_ne]; have := HQ.out; have := h6'.out; omega
     obtain ⟨hP, hE⟩ := HD6.out h6'.out
     have HP := Lib.hid hP
     have HE := Lib.hid hE
     clear hP hE
     go_wp2_with (at_builtin; refine wpList_app1 _ rfl _ _ 149 rfl 3 i0 (.int .i64 0) 1 8 Tryz.underlying149 hi0 hz0' hz1 hz2 rfl (by omega) _ _ _ rfl KG.out.own 1 _ _ rfl rfl rfl ?e1 ?e2 (by omega) ?_)
     case e1 => simp [Value.oneCell']
     case e2 => have := HK8.out; omega
     intro v2 y2 hG
     have KG2 : Hid (Grew 3 1 w (.slice none 0 0) y2 v2 (k + 1) (intsP (pre ++ [P]))) := by
      have h := KG.out.trans hG
      rw [intsP, List.map_append]
      rw [HP.out]
      exact h
     clear hG
     obtain ⟨A2, m2, c2, rfl, _, _⟩ := own_slice KG2.out.own
     have t8 : ((b.toNat : Int) == 46) = true := by rw [beq_iff_eq]; omega
     have hb46 : Hid (b.toNat = 46) := by simp only [Hid]; omega
     go_wp2
     go_roundw
     case rel =>
      have hx : k < 8 ∧ partsR (8 - k) at_ (s.toList.drop at_) = P :: partsR (8 - (k + 1)) (E + 1) (s.toList.drop (E + 1)) := by
       rcases HPA.out with ⟨h1, h⟩ | ⟨_, hk, _, _, ⟨h2, h⟩ | ⟨b', h2, h3, h4, h⟩ | ⟨b', h2, h3, h4, h⟩⟩
       ·rw [HP.out] at h1; exact absurd rfl h1
       ·have := HE.out; have := h1'.out; omega
       ·exfalso
        apply h4
        have e := HE.out
        subst e
        rw [← h3, ← hb46.out, hbq.out]
       ·exact ⟨hk, h⟩
      refine ⟨k + 1, q + 1, pre ++ [P], by omega, by have := h1'.out; omega, ?_, ?_, by rw [List.length_append, HPK.out]; rfl, by go_num, KG2.out⟩
      ·rw [HPL.out, hx.2, HE.out]
       simp
      ·intro p hp
       rcases List.mem_append.1 hp with h | h
       ·exact HPZ.out p h
       ·rw [List.mem_singleton.1 h, HP.out]
     case measure =>
      have h1 := h1'.out
      have h2 := HQ.out
      simp [intOf]
      omega
    ·have t7 : ((q : Int) == q7) = false := by rw [beq_eq_false_iff_ne]; have := HQ.out; have := h6'.out; omega
     obtain ⟨hP, hE⟩ := HD6.out h6'.out
     have HP := Lib.hid hP
     have HE := Lib.hid hE
     clear hP hE
     go_wp2_with (at_builtin; refine wpList_app1 _ rfl _ _ 149 rfl 3 i0 (.int .i64 0) 1 8 Tryz.underlying149 hi0 hz0' hz1 hz2 rfl (by omega) _ _ _ rfl KG.out.own 1 _ _ rfl rfl rfl ?e1 ?e2 (by omega) ?_)
     case e1 => simp [Value.oneCell']
     case e2 => have := HK8.out; omega
     intro v2 y2 hG
     have KG2 : Hid (Grew 3 1 w (.slice none 0 0) y2 v2 (k + 1) (intsP (pre ++ [P]))) := by
      have h := KG.out.trans hG
      rw [intsP, List.map_append]
      rw [HP.out]
      exact h
     clear hG
     obtain ⟨A2, m2, c2, rfl, _, _⟩ := own_slice KG2.out.own
     have t8 : ((b.toNat : Int) == 46) = false := by rw [beq_eq_false_iff_ne]; omega
     have hb46 : Hid (b.toNat ≠ 46) := by simp only [Hid]; omega
     go_wp2
     go_ret3
     have hv : validO s = false := by
      rcases HPA.out with ⟨h1, h⟩ | ⟨_, _, _, _, ⟨h2, h⟩ | ⟨b', h2, h3, h4, h⟩ | ⟨b', h2, h3, h4, h⟩⟩
      ·rw [HP.out] at h1; exact absurd rfl h1
      ·have := HE.out; have := h1'.out; omega
      ·exact valid_bad (p := ⟨0, E, 6⟩) HPL.out (by rw [h]; simp) (by simp)
      ·exfalso
       apply hb46.out
       have e := HE.out
       subst e
       rw [← h4, ← h3, hbq.out]
     exact RParsed.bad hv (by decide) KG2.out.fr0
 ·have hqE : Hid (q = s.size) := by
   have h2 := HLN.out
   have h3 := L1.out.2
   have h4 := HQ.out
   simp only [Hid]
   omega
  have u0 : ¬ (q : Int) < (s.size : Int) := by omega
  have uE : ((q : Int) == (s.size : Int)) = true := by rw [beq_iff_eq]; have := hqE.out; omega
  by_cases h7 : ds.length = 7
  ·have h7' := Lib.hid h7
   have t7 : ((q : Int) == q7) = true := by rw [beq_iff_eq]; have := HQ.out; have := h7'.out; omega
   clear h7 h1
   go_wp2
   go_ret3
   exact RParsed.bad (HD7.out h7'.out) (by decide) FW.out
  ·have h6' : Hid (ds.length ≤ 6) := by simp only [Hid]; omega
   clear h7 h1
   have t7 : ((q : Int) == q7) = false := by rw [beq_eq_false_iff_ne]; have := HQ.out; have := h6'.out; omega
   obtain ⟨hP, hE⟩ := HD6.out h6'.out
   have HP := Lib.hid hP
   have HE := Lib.hid hE
   clear hP hE
   go_wp2_with (at_builtin; refine wpList_app1 _ rfl _ _ 149 rfl 3 i0 (.int .i64 0) 1 8 Tryz.underlying149 hi0 hz0' hz1 hz2 rfl (by omega) _ _ _ rfl KG.out.own 1 _ _ rfl rfl rfl ?e1 ?e2 (by omega) ?_)
   case e1 => simp [Value.oneCell']
   case e2 => have := HK8.out; omega
   intro v2 y2 hG
   have KG2 : Hid (Grew 3 1 w (.slice none 0 0) y2 v2 (k + 1) (intsP (pre ++ [P]))) := by
    have h := KG.out.trans hG
    rw [intsP, List.map_append]
    rw [HP.out]
    exact h
   clear hG
   obtain ⟨A2, m2, c2, rfl, _, _⟩ := own_slice KG2.out.own
   go_wp2
   go_ret3
   have hpa : Hid (partsL s = pre ++ [P]) := by
    simp only [Hid]
    rw [HPL.out]
    rcases HPA.out with ⟨h1, h⟩ | ⟨_, _, _, _, ⟨_, h⟩ | ⟨_, h2, _, _, h⟩ | ⟨_, h2, _, _, h⟩⟩
    ·rw [HP.out] at h1; exact absurd rfl h1
    ·rw [h]
    ·have := HE.out; have := hqE.out; omega
    ·have := HE.out; have := hqE.out; omega
   have hv : validO s = true := valid_good hpa.out (fun p hp => by
    rcases List.mem_append.1 hp with h | h
    ·exact HPZ.out p h
    ·rw [List.mem_singleton.1 h, HP.out])
   refine ⟨_, _, _, rfl, by rw [hv]; rfl, KG2.out.fr0, fun _ => ?_⟩
   have h := KG2.out
   have e1 : ordsO s = (pre ++ [P]).map (fun p => (p.ord : Int)) := by rw [ordsO, hpa.out]
   rw [e1, List.length_map, List.length_append, HPK.out, List.map_map]
   exact h
end Go.Proofs.YtpnchdgplpdefaaGreatDoor
