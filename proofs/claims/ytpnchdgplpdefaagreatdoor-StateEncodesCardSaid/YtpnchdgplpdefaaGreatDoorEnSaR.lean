/- State: the iterator over the ordinals of a name. -/
import Derived.Test.YtpnchdgplpdefaaGreatDoorEnSaQ
namespace Go.Proofs.YtpnchdgplpdefaaGreatDoor
open Go.RowKit Go.Shelf
attribute [local go_sem] Oper.semAt_some
theorem rowsIn_wide0 {n : Nat} {P : Program} {row : String} {args : Array Value} {w : World} {R : Value → World → Prop} (h : Rows P row args w R) : RowsIn Fence.wide n P row args w R :=
 fun c cs _ => let ⟨v, w', q, s⟩ := h c cs; ⟨v, w', q, stepsIn_wide.2 s⟩
theorem oper_wide0 {n : Nat} {P : Program} {o : Oper} {a : Act} {w : World} {K K' : Act → World → Prop} {Q Q' : Exit → Act → World → Prop} (hd : noDefer o = true) (hK : ∀ a w, K a w → K' a w) (hQ : ∀ e a w, Q e a w → Q' e a w) (h : o.wp P a w K Q) :
  o.wpIn Fence.wide n P a w K' Q' := by
 refine ⟨fun _ _ => trivial, ?_⟩
 rw [Oper.semAt_plain _ _ _ (noDefer_ne hd)]
 unfold Oper.wp at h
 generalize (execOp a.eval o).run P w = x at *
 have hdd : (Fence.wide.depth.isSome = true → 1 ≤ n) := fun h => (by cases h)
 rcases x with ⟨x, w'⟩ | ⟨x, w'⟩
 ·cases x with
  | value v => exact hK _ _ h
  | skip => exact hK _ _ h
  | defer d => exact hK _ _ h
  | enter f args =>
   refine ⟨hdd, callsIn_wide.2 (Calls.mono h fun e w'' he => ?_)⟩
   cases e with
   | returned v => exact hK _ _ he
   | panicked ch => exact hQ _ _ _ he
   | outgrown => obtain ⟨a', w3, hq⟩ := he; exact ⟨a', w3, hQ _ _ _ hq⟩
  | row rw_ args => exact ⟨hdd, rowsIn_wide0 (h.mono fun v w'' hv => hK _ _ hv)⟩
  | _ => exact absurd h id
 ·cases x <;> first | exact hQ _ _ _ h | exact absurd h id
theorem wpListIn_wide0 {n : Nat} {P : Program} {ops : Array Oper} {Q : Exit → Act → World → Prop} : ∀ {l : List Oper} {a : Act} {w : World}, (l.all noDefer) = true → wpList P ops (fun e a w => Q e a w ∧ e = .normal) l a w → wpListIn Fence.wide n P ops Q l a w
 | [], _, _, _, h => h.1
 | o :: rest, a, w, hd, h => by
  rw [List.all_cons, Bool.and_eq_true] at hd
  unfold wpList at h
  unfold wpListIn
  split
  ·rename_i hw
   rw [if_pos hw] at h
   rcases h with h | ⟨_, a', w', hq⟩
   ·exact oper_wide0 hd.1 (fun a w hk => wpListIn_wide0 hd.2 hk) (fun _ _ _ hq => hq.1) h
   ·exact absurd hq.2 (by simp)
  ·rename_i hw
   rw [if_neg hw] at h
   exact ⟨fun _ _ => trivial, wpListIn_wide0 hd.2 h⟩
theorem wpListIn_wide1 {n : Nat} {P : Program} {ops : Array Oper} {Q : Exit → Act → World → Prop} {o : Oper} {l : List Oper} {a : Act} {w : World} (f : Op → Bool) (_hf : f o.op = true) (hd : ((o :: l).all noDefer) = true) (h : wpList P ops (fun e a w => Q e a w ∧ e = .normal) (o :: l) a w) : wpListIn Fence.wide n P ops Q (o :: l) a w :=
 wpListIn_wide0 hd h
theorem partsR_at (s : ByteArray) (k at_ : Nat) (hk : k ≤ 8) (ha : at_ ≤ s.size) (P : Part) (E : Nat) (hP : firstP k at_ (s.toList.drop at_) = (P, E)) :
  (P.e ≠ 0 ∧ partsR (8 - k) at_ (s.toList.drop at_) = [P]) ∨ (P.e = 0 ∧ k < 8 ∧ at_ ≤ E ∧ E ≤ s.size ∧
   ((E = s.size ∧ partsR (8 - k) at_ (s.toList.drop at_) = [P]) ∨ (∃ b, ∃ h : E < s.size, s[E] = b ∧ b.toNat ≠ 46 ∧ partsR (8 - k) at_ (s.toList.drop at_) = [P, ⟨0, E, 6⟩]) ∨
    (∃ b, ∃ h : E < s.size, s[E] = b ∧ b.toNat = 46 ∧ partsR (8 - k) at_ (s.toList.drop at_) = P :: partsR (8 - (k + 1)) (E + 1) (s.toList.drop (E + 1))))) := by
 have hlen : (s.toList.drop at_).length = s.size - at_ := by rw [List.length_drop, toList_size]
 have hR := runD_length 7 (s.toList.drop at_)
 have hget : ∀ i b, (s.toList.drop at_)[i]? = some b → ∃ h : at_ + i < s.size, s[at_ + i] = b := fun i b hb => by
  rw [List.getElem?_drop] at hb
  exact str_at hb
 have hdrop : ∀ i, (s.toList.drop at_).drop i = s.toList.drop (at_ + i) := fun i => by rw [List.drop_drop]
 generalize s.toList.drop at_ = l at *
 by_cases h8 : k = 8
 ·subst h8
  simp only [firstP, if_true, Prod.mk.injEq] at hP
  obtain ⟨rfl, rfl⟩ := hP
  exact .inl ⟨by simp, rfl⟩
 ·have e8 : 8 - k = (7 - k) + 1 := by omega
  rw [e8, partsR]
  simp only [show 7 - (7 - k) = k by omega, hP]
  by_cases he : P.e = 0
  ·rw [if_neg (by simp [he])]
   have hE : E = at_ + (runD 7 l).length := by
    simp only [firstP] at hP
    rw [if_neg h8] at hP
    split at hP
    ·simp only [Prod.mk.injEq] at hP; rw [← hP.1] at he; simp at he
    ·split at hP
     ·simp only [Prod.mk.injEq] at hP; rw [← hP.1] at he; simp at he
     ·split at hP
      ·simp only [Prod.mk.injEq] at hP; rw [← hP.1] at he; simp at he
      ·split at hP
       ·simp only [Prod.mk.injEq] at hP; rw [← hP.1] at he; simp at he
       ·simp only [Prod.mk.injEq] at hP; exact hP.2.symm
   refine .inr ⟨he, by omega, by omega, by omega, ?_⟩
   by_cases h1 : l.length ≤ (runD 7 l).length
   ·rw [if_pos h1]
    exact .inl ⟨by omega, rfl⟩
   ·rw [if_neg h1]
    obtain ⟨b, hb⟩ : ∃ b, l[(runD 7 l).length]? = some b := ⟨_, List.getElem?_eq_getElem (by omega)⟩
    obtain ⟨h2, h3⟩ := hget _ _ hb
    rw [hb]
    by_cases h4 : b = 46
    ·rw [if_neg (by simp [h4])]
     refine .inr (.inr ⟨b, by omega, ?_, by rw [h4]; rfl, ?_⟩)
     ·subst hE; exact h3
     ·rw [hdrop, ← hE, show at_ + ((runD 7 l).length + 1) = E + 1 by omega, show 7 - k = 8 - (k + 1) by omega]
    ·rw [if_pos (by simpa using h4)]
     refine .inr (.inl ⟨b, by omega, ?_, ?_, ?_⟩)
     ·subst hE; exact h3
     ·intro h
      exact h4 (UInt8.toNat_inj.1 h)
     ·rw [hE]
  ·rw [if_pos he]
   exact .inl ⟨he, rfl⟩
def KP (A B : World) : Prop := ∀ g t cs, t = 9 ∨ t = 166 → Blk A g t cs → Blk B g t cs
theorem KP.refl (A : World) : KP A A := fun _ _ _ _ h => h
theorem KP.trans {A B C : World} (h : KP A B) (k : KP B C) : KP A C := fun g t cs ht hb => k g t cs ht (h g t cs ht hb)
theorem KP.fr {A B : World} {T : Nat → Prop} (h : Fr T A B) (hT : ∀ g t cs, t = 9 ∨ t = 166 → Blk A g t cs → ¬ T g) : KP A B := fun g t cs ht hb => hb.fr h (hT g t cs ht hb)
theorem KP.below {A B : World} (h : Below A.heap.size A B) : KP A B := fun g _ _ _ hb => (h.block g hb.lt).trans hb
def opLoad9 : Op → Bool
 | .load t _ => t == 9
 | _ => false
set_option maxRecDepth 100000 in
set_option maxHeartbeats 4000000 in
theorem parts_stops (m B : Nat) (s : ByteArray) (w : World) (hs : s.size ≤ 1099511627776) (hB : Blk w B 9 #[.string s]) :
  SeqStopsK Fence.wide m Tryz.prog 104 #[.pointer (some ⟨B, 0, none⟩)] (fun p : Part => #[Value.agg #[.int .i64 p.ord, .int .i64 p.at_, .int .i64 p.e]]) KP (fun ys => ys = partsL s) (fun pre => pre <+: partsL s) (partsL s).length w := by
 intro l J Jx W hW hJ _ hY h0
 have hdd : ∀ k : Nat, (Fence.wide.depth.isSome = true → 1 ≤ k) := fun k h => by cases h
 have HJ := Lib.hid hJ
 have HY := Lib.hid hY
 have HS := Lib.hid hs
 have HB : Hid (Blk W B 9 #[.string s]) := KP.below hW _ _ _ (.inl rfl) hB
 have b0 : W.cell? ⟨B, 0, none⟩ = some (.string s) := HB.out.cell 0
 have J0 := Lib.hid h0
 clear hW hJ hY h0 hs hB
 by_cases hz : s.size = 0
 ·have hPL : Hid (partsL s = []) := by simp only [Hid]; rw [partsL, if_pos hz]
  have hse : s = ByteArray.empty := by
   cases s with
   | mk d =>
    have hd : d.size = 0 := hz
    rw [show d = #[] from Array.eq_empty_of_size_eq_zero hd]
    rfl
  subst hse
  clear hz
  refine callsIn_of_wp Tryz.func104 rfl trivial ?_ rfl
  simp only [Tryz.ntmps104, List.size_toArray, List.length_cons, List.length_nil, Nat.reduceAdd, Nat.reduceSub, Array.replicate_succ, Array.replicate_zero, List.push_toArray, List.append_toArray, List.nil_append, List.cons_append]
  gi_wp2
  refine wpIn_loop_once ?_
  gi_wp2
  go_end0
  exact ⟨⟨_, rfl⟩, .inl ⟨_, hPL.out.symm, J0.out⟩⟩
 ·have hPL : Hid (partsL s = partsR 8 0 s.toList) := by simp only [Hid]; rw [partsL, if_neg hz]
  have tne : s.toList.isEmpty = false := by
   rw [List.isEmpty_eq_false_iff]
   intro h
   have := congrArg List.length h
   rw [toList_size] at this
   exact hz (by simpa using this)
  have CF := Lib.hid (fun at_ k w h1 h2 => first_any s at_ k w h1 HS.out h2)
  clear hz
  refine callsIn_of_wp Tryz.func104 rfl trivial ?_ rfl
  simp only [Tryz.ntmps104, List.size_toArray, List.length_cons, List.length_nil, Nat.reduceAdd, Nat.reduceSub, Array.replicate_succ, Array.replicate_zero, List.push_toArray, List.append_toArray, List.nil_append, List.cons_append]
  gi_wp2
  gi_loopw [3, 4] (fun i n wr => ∃ (k at_ : Nat) (pre : List Part), k ≤ 8 ∧ at_ ≤ s.size ∧ partsL s = pre ++ partsR (8 - k) at_ (s.toList.drop at_) ∧ pre.length = k ∧ i = .int .i64 (at_ : Nat) ∧ n = .int .i64 (k : Nat) ∧ J pre wr ∧ KP W wr) (fun _ n _ => 9 - (intOf n).toNat)
  case atStart => exact ⟨0, 0, [], by omega, by omega, by rw [hPL.out]; rfl, rfl, rfl, rfl, J0.out, KP.refl _⟩
  case round =>
   obtain ⟨k, at_, pre, hk, ha, hpl, hpk, rfl, rfl, hJp, hKP⟩ := hrel
   have HJp := Lib.hid hJp
   have HKP := Lib.hid hKP
   have HPL := Lib.hid hpl
   have HPK := Lib.hid hpk
   have c0 : wr.cell? ⟨B, 0, none⟩ = some (.string s) := (hKP _ _ _ (.inl rfl) HB.out).cell 0
   have CF1 := Lib.hid (CF.out at_ k wr ha hk)
   obtain ⟨P, E, hPE⟩ : ∃ P E, firstP k at_ (s.toList.drop at_) = (P, E) := ⟨_, _, rfl⟩
   have HPA := Lib.hid (partsR_at s k at_ hk ha P E hPE)
   rw [hPE] at CF1
   have HA := Lib.hid ha
   have HK8 := Lib.hid hk
   clear hJp hKP hpl hpk hPE CF b0 J0 hPL ha hk
   gi_wp2_with (refine wpListIn_wide1 opLoad9 rfl (by kernel_rfl) ?_)
   go_wp2
   gi_wp2_with (refine wpListIn_wide1 opLoad9 rfl (by kernel_rfl) ?_)
   go_wp2_with fail
   refine CF1.out.mono ?_
   rintro e w1 ⟨rfl, f1⟩
   have F1 := Lib.hid f1
   clear f1 c0 CF1
   go_wp2_with (refine wpList_allocBlk rfl 166 rfl (.agg partZ) zvPart partZ rfl ?_)
   intro w2 n2
   have F2 := Lib.hid (F1.out.trans n2.fr)
   have B2 := Lib.hid n2.blk
   have Z1 : Sz wr w1.heap.size := F1.out.size
   clear n2 F1
   generalize w1.heap.size = g1 at *
   go_wp2_with (refine wpList_storeBlk rfl 166 (.tmp 5) _ rfl g1 (partC P) rfl rfl _ _ B2.out infoPart rfl (part_one _) ?_)
   intro w3 b3 f3
   have F3 : Hid (Fr Nothing wr w3) := F2.out.then_ f3 (fun i hi e => by have e' : i = g1 := e; have := Z1; unfold Sz at this; omega)
   have B3 := Lib.hid b3
   clear b3 f3 F2 B2
   go_wp2
   have J3 := Lib.hid (HJ.out pre wr w3 none HJp.out (Fr.grown0 F3.out) (fun r e => by cases e))
   have K3 := Lib.hid (HKP.out.trans (KP.fr F3.out (fun _ _ _ _ _ x => x)))
   have hpre : pre.length < (partsL s).length := by
    rw [HPL.out, List.length_append]
    have : 0 < (partsR (8 - k) at_ (s.toList.drop at_)).length := by
     rcases HPA.out with ⟨_, h⟩ | ⟨_, _, _, _, ⟨_, h⟩ | ⟨_, _, _, _, h⟩ | ⟨_, _, _, _, h⟩⟩ <;> (rw [h]; simp)
    omega
   obtain ⟨fn, tmps, assign, body, hy, hR⟩ := HY.out pre P w3 J3.out hpre
   have HR := Lib.hid hR
   have q0 : w3.cell? ⟨g1, 0, none⟩ = some (.int .i64 P.ord) := B3.out.cell 0
   have q1 : w3.cell? ⟨g1, 1, none⟩ = some (.int .i64 P.at_) := B3.out.cell 1
   have q2 : w3.cell? ⟨g1, 2, none⟩ = some (.int .i64 P.e) := B3.out.cell 2
   clear hR hpre J3 HJp HKP
   gi_wp2
   refine ⟨hdd _, HR.out.mono ?_⟩
   clear HR hy q0 q1 q2 fn tmps assign body
   rintro e W4 (⟨rfl, hJ4, hk4⟩ | ⟨rfl, hx4⟩)
   ·have J4 := Lib.hid hJ4
    have K4 := Lib.hid (K3.out.trans hk4)
    have B4 : Hid (Blk W4 g1 166 (partC P)) := hk4 _ _ _ (.inr rfl) B3.out
    have c0 : W4.cell? ⟨B, 0, none⟩ = some (.string s) := (K4.out _ _ _ (.inl rfl) HB.out).cell 0
    have q2 : W4.cell? ⟨g1, 2, none⟩ = some (.int .i64 P.e) := B4.out.cell 2
    clear hJ4 hk4 K3 F3 B3
    rcases HPA.out with ⟨he, hp⟩ | ⟨he, hk8, hE1, hE2, hc⟩
    ·have t1 : ((P.e : Int) == 0) = false := by rw [beq_eq_false_iff_ne]; omega
     have HP := Lib.hid hp
     have he' : ¬ P.e = 0 := he
     clear HPA hp he
     gi_wp2
     refine bodyPost_ret (results_none rfl _ _ _) rfl ?_
     exact ⟨⟨_, rfl⟩, .inl ⟨_, by rw [HPL.out, HP.out], J4.out⟩⟩
    ·have t1 : ((P.e : Int) == 0) = true := by rw [beq_iff_eq]; omega
     have HE2 : Hid (E ≤ s.size) := hE2
     have HK := Lib.hid hk8
     have he0 : P.e = 0 := he
     clear he hE1 hE2 hk8
     rcases hc with ⟨he, hp⟩ | ⟨b, h1, h2, h3, hp⟩ | ⟨b, h1, h2, h3, hp⟩
     ·have t2 : ((E : Int) == (s.size : Int)) = true := by rw [beq_iff_eq]; omega
      have HP := Lib.hid hp
      clear HPA hp he
      gi_wp2
      refine bodyPost_ret (results_none rfl _ _ _) rfl ?_
      exact ⟨⟨_, rfl⟩, .inl ⟨_, by rw [HPL.out, HP.out], J4.out⟩⟩
     ·have t2 : ((E : Int) == (s.size : Int)) = false := by rw [beq_eq_false_iff_ne]; omega
      have t3 : (E : Int) < (s.size : Int) := by omega
      have t4 : (0 : Int) ≤ (E : Int) := by omega
      have t5 : ((b.toNat : Int) == 46) = false := by rw [beq_eq_false_iff_ne]; omega
      have HP := Lib.hid hp
      have hlen2 : (pre ++ [P]).length < (partsL s).length := by rw [HPL.out, HP.out]; simp
      obtain ⟨fn, tmps, assign, body, hy, hR⟩ := HY.out (pre ++ [P]) ⟨0, E, 6⟩ W4 J4.out hlen2
      have HR := Lib.hid hR
      have hy' : (Instr.yield l #[.agg #[.int .i64 0, .int .i64 (E : Int), .int .i64 6]]).run Tryz.prog W4 = .ok (.round l fn tmps assign body) W4 := hy
      clear HPA hp h3 hR hlen2 hy
      gi_wp2
      refine ⟨hdd _, HR.out.mono ?_⟩
      clear HR hy'
      rintro e W5 (⟨rfl, hJ5, _⟩ | ⟨rfl, hx5⟩)
      ·have J5 := Lib.hid hJ5
       clear hJ5
       gi_wp2
       refine bodyPost_ret (results_none rfl _ _ _) rfl ?_
       exact ⟨⟨_, rfl⟩, .inl ⟨_, by rw [HPL.out, HP.out]; simp, J5.out⟩⟩
      ·have J5 := Lib.hid hx5
       clear hx5
       gi_wp2
       refine bodyPost_ret (results_none rfl _ _ _) rfl ?_
       exact ⟨⟨_, rfl⟩, .inr ⟨_, by rw [HPL.out, HP.out]; simp, J5.out⟩⟩
     ·have t2 : ((E : Int) == (s.size : Int)) = false := by rw [beq_eq_false_iff_ne]; omega
      have t3 : (E : Int) < (s.size : Int) := by omega
      have t4 : (0 : Int) ≤ (E : Int) := by omega
      have t5 : ((b.toNat : Int) == 46) = true := by rw [beq_iff_eq]; omega
      have t6 : E ≤ 1099511627776 := by have := HS.out; omega
      have t7 : k ≤ 8 := HK8.out
      have HP := Lib.hid hp
      have H1 := Lib.hid h1
      clear HPA hp h3
      gi_wp2
      go_roundw
      case rel =>
       refine ⟨k + 1, E + 1, pre ++ [P], by have := HK.out; omega, by have := H1.out; omega, by rw [HPL.out, HP.out]; simp, by rw [List.length_append, HPK.out]; rfl, by go_num, by go_num, J4.out, K4.out⟩
      case measure => have := HK.out; simp [intOf]; omega
   ·have J4 := Lib.hid hx4
    clear hx4
    gi_wp2
    refine bodyPost_ret (results_none rfl _ _ _) rfl ?_
    refine ⟨⟨_, rfl⟩, .inr ⟨_, ?_, J4.out⟩⟩
    rw [HPL.out]
    rcases HPA.out with ⟨_, h⟩ | ⟨_, _, _, _, ⟨_, h⟩ | ⟨_, _, _, _, h⟩ | ⟨_, _, _, _, h⟩⟩ <;> (rw [h]; simp)
end Go.Proofs.YtpnchdgplpdefaaGreatDoor
