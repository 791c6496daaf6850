/- Steps of the proof of LawPipesLoseNothing: contracts of the functions that the law reaches, for every world that holds what each of them asks. -/
import Derived.Test.YtmpokappjogehaaGreatDoorQAK
set_option linter.unusedVariables false
set_option linter.unusedSimpArgs false
namespace Go.Proofs.YtmpokappjogehaaGreatDoor
open Go.RowKit Go.Shelf

attribute [local go_sem] Oper.semAt_some

theorem rowsIn_wide0 {n : Nat} {P : Program} {row : String} {args : Array Value} {w : World} {R : Value → World → Prop} (h : Rows P row args w R) : RowsIn Fence.wide n P row args w R :=
  fun c cs _ => let ⟨v, w', q, s⟩ := h c cs; ⟨v, w', q, stepsIn_wide.2 s⟩
theorem oper_wide0 {n : Nat} {P : Program} {o : Oper} {a : Act} {w : World} {K K' : Act → World → Prop} {Q Q' : Exit → Act → World → Prop} (hd : noDefer o = true) (hK : ∀ a w, K a w → K' a w) (hQ : ∀ e a w, Q e a w → Q' e a w) (h : o.wp P a w K Q) :
    o.wpIn Fence.wide n P a w K' Q' := by
  refine ⟨fun _ _ => trivial, ?_⟩
  rw [Oper.semAt_plain _ _ _ (noDefer_ne hd)]
  unfold Oper.wp at h
  generalize (execOp a.eval o).run P w = x at *
  have hdd : (Fence.wide.depth.isSome = true → 1 ≤ n) := fun h => (by cases h)
  rcases x with ⟨x, w'⟩ | ⟨x, w'⟩
  · cases x with
    | value v => exact hK _ _ h
    | skip => exact hK _ _ h
    | defer d => exact hK _ _ h
    | enter f args =>
      refine ⟨hdd, callsIn_wide.2 (Calls.mono h fun e w'' he => ?_)⟩
      cases e with
      | returned v => exact hK _ _ he
      | panicked ch => exact hQ _ _ _ he
      | outgrown => obtain ⟨a', w3, hq⟩ := he; exact ⟨a', w3, hQ _ _ _ hq⟩
    | row rw_ args => exact ⟨hdd, rowsIn_wide0 (h.mono fun v w'' hv => hK _ _ hv)⟩
    | _ => exact absurd h id
  · cases x <;> first | exact hQ _ _ _ h | exact absurd h id
theorem wpListIn_wide0 {n : Nat} {P : Program} {ops : Array Oper} {Q : Exit → Act → World → Prop} : ∀ {l : List Oper} {a : Act} {w : World}, (l.all noDefer) = true → wpList P ops (fun e a w => Q e a w ∧ e = .normal) l a w → wpListIn Fence.wide n P ops Q l a w
  | [], _, _, _, h => h.1
  | o :: rest, a, w, hd, h => by
    rw [List.all_cons, Bool.and_eq_true] at hd
    unfold wpList at h
    unfold wpListIn
    split
    · rename_i hw
      rw [if_pos hw] at h
      rcases h with h | ⟨_, a', w', hq⟩
      · exact oper_wide0 hd.1 (fun a w hk => wpListIn_wide0 hd.2 hk) (fun _ _ _ hq => hq.1) h
      · exact absurd hq.2 (by simp)
    · rename_i hw
      rw [if_neg hw] at h
      exact ⟨fun _ _ => trivial, wpListIn_wide0 hd.2 h⟩
theorem wpListIn_wide1 {n : Nat} {P : Program} {ops : Array Oper} {Q : Exit → Act → World → Prop} {o : Oper} {l : List Oper} {a : Act} {w : World} (f : Op → Bool) (_hf : f o.op = true) (hd : ((o :: l).all noDefer) = true) (h : wpList P ops (fun e a w => Q e a w ∧ e = .normal) (o :: l) a w) : wpListIn Fence.wide n P ops Q (o :: l) a w :=
  wpListIn_wide0 hd h

theorem partsR_at (s : ByteArray) (k at_ : Nat) (hk : k ≤ 8) (ha : at_ ≤ s.size) (P : Part) (E : Nat) (hP : firstP k at_ (s.toList.drop at_) = (P, E)) :
    (P.e ≠ 0 ∧ partsR (8 - k) at_ (s.toList.drop at_) = [P]) ∨ (P.e = 0 ∧ k < 8 ∧ at_ ≤ E ∧ E ≤ s.size ∧
      ((E = s.size ∧ partsR (8 - k) at_ (s.toList.drop at_) = [P]) ∨ (∃ b, ∃ h : E < s.size, s[E] = b ∧ b.toNat ≠ 46 ∧ partsR (8 - k) at_ (s.toList.drop at_) = [P, ⟨0, E, 6⟩]) ∨
        (∃ b, ∃ h : E < s.size, s[E] = b ∧ b.toNat = 46 ∧ partsR (8 - k) at_ (s.toList.drop at_) = P :: partsR (8 - (k + 1)) (E + 1) (s.toList.drop (E + 1))))) := by
  have hlen : (s.toList.drop at_).length = s.size - at_ := by rw [List.length_drop, toList_size]
  have hR := runD_length 7 (s.toList.drop at_)
  have hget : ∀ i b, (s.toList.drop at_)[i]? = some b → ∃ h : at_ + i < s.size, s[at_ + i] = b := fun i b hb => by
    rw [List.getElem?_drop] at hb
    exact str_at hb
  have hdrop : ∀ i, (s.toList.drop at_).drop i = s.toList.drop (at_ + i) := fun i => by rw [List.drop_drop]
  generalize s.toList.drop at_ = l at *
  by_cases h8 : k = 8
  · subst h8
    simp only [firstP, if_true, Prod.mk.injEq] at hP
    obtain ⟨rfl, rfl⟩ := hP
    exact .inl ⟨by simp, rfl⟩
  · have e8 : 8 - k = (7 - k) + 1 := by omega
    rw [e8, partsR]
    simp only [show 7 - (7 - k) = k by omega, hP]
    by_cases he : P.e = 0
    · rw [if_neg (by simp [he])]
      have hE : E = at_ + (runD 7 l).length := by
        simp only [firstP] at hP
        rw [if_neg h8] at hP
        split at hP
        · simp only [Prod.mk.injEq] at hP; rw [← hP.1] at he; simp at he
        · split at hP
          · simp only [Prod.mk.injEq] at hP; rw [← hP.1] at he; simp at he
          · split at hP
            · simp only [Prod.mk.injEq] at hP; rw [← hP.1] at he; simp at he
            · split at hP
              · simp only [Prod.mk.injEq] at hP; rw [← hP.1] at he; simp at he
              · simp only [Prod.mk.injEq] at hP; exact hP.2.symm
      refine .inr ⟨he, by omega, by omega, by omega, ?_⟩
      by_cases h1 : l.length ≤ (runD 7 l).length
      · rw [if_pos h1]
        exact .inl ⟨by omega, rfl⟩
      · rw [if_neg h1]
        obtain ⟨b, hb⟩ : ∃ b, l[(runD 7 l).length]? = some b := ⟨_, List.getElem?_eq_getElem (by omega)⟩
        obtain ⟨h2, h3⟩ := hget _ _ hb
        rw [hb]
        by_cases h4 : b = 46
        · rw [if_neg (by simp [h4])]
          refine .inr (.inr ⟨b, by omega, ?_, by rw [h4]; rfl, ?_⟩)
          · subst hE; exact h3
          · rw [hdrop, ← hE, show at_ + ((runD 7 l).length + 1) = E + 1 by omega, show 7 - k = 8 - (k + 1) by omega]
        · rw [if_pos (by simpa using h4)]
          refine .inr (.inl ⟨b, by omega, ?_, ?_, ?_⟩)
          · subst hE; exact h3
          · intro h
            exact h4 (UInt8.toNat_inj.1 h)
          · rw [hE]
    · rw [if_pos he]
      exact .inl ⟨he, rfl⟩

/-- Blocks that hold strings or parts are as they were. -/
def KP (A B : World) : Prop := ∀ g t cs, t = 9 ∨ t = 311 → Blk A g t cs → Blk B g t cs
theorem KP.refl (A : World) : KP A A := fun _ _ _ _ h => h
theorem KP.trans {A B C : World} (h : KP A B) (k : KP B C) : KP A C := fun g t cs ht hb => k g t cs ht (h g t cs ht hb)
theorem KP.fr {A B : World} {T : Nat → Prop} (h : Fr T A B) (hT : ∀ g t cs, t = 9 ∨ t = 311 → Blk A g t cs → ¬ T g) : KP A B := fun g t cs ht hb => hb.fr h (hT g t cs ht hb)
theorem KP.below {A B : World} (h : Below A.heap.size A B) : KP A B := fun g _ _ _ hb => (h.block g hb.lt).trans hb

def opLoad9 : Op → Bool
  | .load t _ => t == 9
  | _ => false
set_option maxRecDepth 100000 in
set_option maxHeartbeats 4000000 in
theorem parts_stops (m B : Nat) (s : ByteArray) (w : World) (hs : s.size ≤ 1099511627776) (hB : Blk w B 9 #[.string s]) :
    SeqStopsK Fence.wide m Tryz.prog 305 #[.pointer (some ⟨B, 0, none⟩)] (fun p : Part => #[Value.agg #[.int .i64 p.ord, .int .i64 p.at_, .int .i64 p.e]]) KP (fun ys => ys = partsL s) (fun pre => pre <+: partsL s) (partsL s).length w := by
  intro l J Jx W hW hJ _ hY h0
  have hdd : ∀ k : Nat, (Fence.wide.depth.isSome = true → 1 ≤ k) := fun k h => by cases h
  have HJ := Lib.hid hJ
  have HY := Lib.hid hY
  have HS := Lib.hid hs
  have HB : Hid (Blk W B 9 #[.string s]) := KP.below hW _ _ _ (.inl rfl) hB
  have b0 : W.cell? ⟨B, 0, none⟩ = some (.string s) := HB.out.cell 0
  have J0 := Lib.hid h0
  clear hW hJ hY h0 hs hB
  by_cases hz : s.size = 0
  · have hPL : Hid (partsL s = []) := by simp only [Hid]; rw [partsL, if_pos hz]
    have hse : s = ByteArray.empty := by
      cases s with
      | mk d =>
        have hd : d.size = 0 := hz
        rw [show d = #[] from Array.eq_empty_of_size_eq_zero hd]
        rfl
    subst hse
    clear hz
    refine callsIn_of_wp Tryz.func305 rfl trivial ?_ rfl
    simp only [Tryz.ntmps305, List.size_toArray, List.length_cons, List.length_nil, Nat.reduceAdd, Nat.reduceSub, Array.replicate_succ, Array.replicate_zero, List.push_toArray, List.append_toArray, List.nil_append, List.cons_append]
    gi_wp2
    refine wpIn_loop_once ?_
    gi_wp2
    go_end0
    exact ⟨⟨_, rfl⟩, .inl ⟨_, hPL.out.symm, J0.out⟩⟩
  · have hPL : Hid (partsL s = partsR 8 0 s.toList) := by simp only [Hid]; rw [partsL, if_neg hz]
    have tne : s.toList.isEmpty = false := by
      rw [List.isEmpty_eq_false_iff]
      intro h
      have := congrArg List.length h
      rw [toList_size] at this
      exact hz (by simpa using this)
    have CF := Lib.hid (fun at_ k w h1 h2 => first_any s at_ k w h1 HS.out h2)
    clear hz
    refine callsIn_of_wp Tryz.func305 rfl trivial ?_ rfl
    simp only [Tryz.ntmps305, List.size_toArray, List.length_cons, List.length_nil, Nat.reduceAdd, Nat.reduceSub, Array.replicate_succ, Array.replicate_zero, List.push_toArray, List.append_toArray, List.nil_append, List.cons_append]
    gi_wp2
    gi_loopw [3, 4] (fun i n wr => ∃ (k at_ : Nat) (pre : List Part), k ≤ 8 ∧ at_ ≤ s.size ∧ partsL s = pre ++ partsR (8 - k) at_ (s.toList.drop at_) ∧ pre.length = k ∧ i = .int .i64 (at_ : Nat) ∧ n = .int .i64 (k : Nat) ∧ J pre wr ∧ KP W wr) (fun _ n _ => 9 - (intOf n).toNat)
    case atStart => exact ⟨0, 0, [], by omega, by omega, by rw [hPL.out]; rfl, rfl, rfl, rfl, J0.out, KP.refl _⟩
    case round =>
      obtain ⟨k, at_, pre, hk, ha, hpl, hpk, rfl, rfl, hJp, hKP⟩ := hrel
      have HJp := Lib.hid hJp
      have HKP := Lib.hid hKP
      have HPL := Lib.hid hpl
      have HPK := Lib.hid hpk
      have c0 : wr.cell? ⟨B, 0, none⟩ = some (.string s) := (hKP _ _ _ (.inl rfl) HB.out).cell 0
      have CF1 := Lib.hid (CF.out at_ k wr ha hk)
      obtain ⟨P, E, hPE⟩ : ∃ P E, firstP k at_ (s.toList.drop at_) = (P, E) := ⟨_, _, rfl⟩
      have HPA := Lib.hid (partsR_at s k at_ hk ha P E hPE)
      rw [hPE] at CF1
      have HA := Lib.hid ha
      have HK8 := Lib.hid hk
      clear hJp hKP hpl hpk hPE CF b0 J0 hPL ha hk
      gi_wp2_with (refine wpListIn_wide1 opLoad9 rfl (by kernel_rfl) ?_)
      go_wp2
      gi_wp2_with (refine wpListIn_wide1 opLoad9 rfl (by kernel_rfl) ?_)
      go_wp2_with fail
      refine CF1.out.mono ?_
      rintro e w1 ⟨rfl, f1⟩
      have F1 := Lib.hid f1
      clear f1 c0 CF1
      go_wp2_with (refine wpList_allocBlk rfl 311 rfl (.agg partZ) zvPart partZ rfl ?_)
      intro w2 n2
      have F2 := Lib.hid (F1.out.trans n2.fr)
      have B2 := Lib.hid n2.blk
      have Z1 : Sz wr w1.heap.size := F1.out.size
      clear n2 F1
      generalize w1.heap.size = g1 at *
      go_wp2_with (refine wpList_storeBlk rfl 311 (.tmp 5) _ rfl g1 (partC P) rfl rfl _ _ B2.out infoPart rfl (part_one _) ?_)
      intro w3 b3 f3
      have F3 : Hid (Fr Nothing wr w3) := F2.out.then_ f3 (fun i hi e => by have e' : i = g1 := e; have := Z1; unfold Sz at this; omega)
      have B3 := Lib.hid b3
      clear b3 f3 F2 B2
      go_wp2
      have J3 := Lib.hid (HJ.out pre wr w3 none HJp.out (Fr.grown0 F3.out) (fun r e => by cases e))
      have K3 := Lib.hid (HKP.out.trans (KP.fr F3.out (fun _ _ _ _ _ x => x)))
      have hpre : pre.length < (partsL s).length := by
        rw [HPL.out, List.length_append]
        have : 0 < (partsR (8 - k) at_ (s.toList.drop at_)).length := by
          rcases HPA.out with ⟨_, h⟩ | ⟨_, _, _, _, ⟨_, h⟩ | ⟨_, _, _, _, h⟩ | ⟨_, _, _, _, h⟩⟩ <;> (rw [h]; simp)
        omega
      obtain ⟨fn, tmps, assign, body, hy, hR⟩ := HY.out pre P w3 J3.out hpre
      have HR := Lib.hid hR
      have q0 : w3.cell? ⟨g1, 0, none⟩ = some (.int .i64 P.ord) := B3.out.cell 0
      have q1 : w3.cell? ⟨g1, 1, none⟩ = some (.int .i64 P.at_) := B3.out.cell 1
      have q2 : w3.cell? ⟨g1, 2, none⟩ = some (.int .i64 P.e) := B3.out.cell 2
      clear hR hpre J3 HJp HKP
      gi_wp2
      refine ⟨hdd _, HR.out.mono ?_⟩
      clear HR hy q0 q1 q2 fn tmps assign body
      rintro e W4 (⟨rfl, hJ4, hk4⟩ | ⟨rfl, hx4⟩)
      · have J4 := Lib.hid hJ4
        have K4 := Lib.hid (K3.out.trans hk4)
        have B4 : Hid (Blk W4 g1 311 (partC P)) := hk4 _ _ _ (.inr rfl) B3.out
        have c0 : W4.cell? ⟨B, 0, none⟩ = some (.string s) := (K4.out _ _ _ (.inl rfl) HB.out).cell 0
        have q2 : W4.cell? ⟨g1, 2, none⟩ = some (.int .i64 P.e) := B4.out.cell 2
        clear hJ4 hk4 K3 F3 B3
        rcases HPA.out with ⟨he, hp⟩ | ⟨he, hk8, hE1, hE2, hc⟩
        · have t1 : ((P.e : Int) == 0) = false := by rw [beq_eq_false_iff_ne]; omega
          have HP := Lib.hid hp
          have he' : ¬ P.e = 0 := he
          clear HPA hp he
          gi_wp2
          refine bodyPost_ret (results_none rfl _ _ _) rfl ?_
          exact ⟨⟨_, rfl⟩, .inl ⟨_, by rw [HPL.out, HP.out], J4.out⟩⟩
        · have t1 : ((P.e : Int) == 0) = true := by rw [beq_iff_eq]; omega
          have HE2 : Hid (E ≤ s.size) := hE2
          have HK := Lib.hid hk8
          have he0 : P.e = 0 := he
          clear he hE1 hE2 hk8
          rcases hc with ⟨he, hp⟩ | ⟨b, h1, h2, h3, hp⟩ | ⟨b, h1, h2, h3, hp⟩
          · have t2 : ((E : Int) == (s.size : Int)) = true := by rw [beq_iff_eq]; omega
            have HP := Lib.hid hp
            clear HPA hp he
            gi_wp2
            refine bodyPost_ret (results_none rfl _ _ _) rfl ?_
            exact ⟨⟨_, rfl⟩, .inl ⟨_, by rw [HPL.out, HP.out], J4.out⟩⟩
          · have t2 : ((E : Int) == (s.size : Int)) = false := by rw [beq_eq_false_iff_ne]; omega
            have t3 : (E : Int) < (s.size : Int) := by omega
            have t4 : (0 : Int) ≤ (E : Int) := by omega
            have t5 : ((b.toNat : Int) == 46) = false := by rw [beq_eq_false_iff_ne]; omega
            have HP := Lib.hid hp
            have hlen2 : (pre ++ [P]).length < (partsL s).length := by rw [HPL.out, HP.out]; simp
            obtain ⟨fn, tmps, assign, body, hy, hR⟩ := HY.out (pre ++ [P]) ⟨0, E, 6⟩ W4 J4.out hlen2
            have HR := Lib.hid hR
            have hy' : (Instr.yield l #[.agg #[.int .i64 0, .int .i64 (E : Int), .int .i64 6]]).run Tryz.prog W4 = .ok (.round l fn tmps assign body) W4 := hy
            clear HPA hp h3 hR hlen2 hy
            gi_wp2
            refine ⟨hdd _, HR.out.mono ?_⟩
            clear HR hy'
            rintro e W5 (⟨rfl, hJ5, _⟩ | ⟨rfl, hx5⟩)
            · have J5 := Lib.hid hJ5
              clear hJ5
              gi_wp2
              refine bodyPost_ret (results_none rfl _ _ _) rfl ?_
              exact ⟨⟨_, rfl⟩, .inl ⟨_, by rw [HPL.out, HP.out]; simp, J5.out⟩⟩
            · have J5 := Lib.hid hx5
              clear hx5
              gi_wp2
              refine bodyPost_ret (results_none rfl _ _ _) rfl ?_
              exact ⟨⟨_, rfl⟩, .inr ⟨_, by rw [HPL.out, HP.out]; simp, J5.out⟩⟩
          · have t2 : ((E : Int) == (s.size : Int)) = false := by rw [beq_eq_false_iff_ne]; omega
            have t3 : (E : Int) < (s.size : Int) := by omega
            have t4 : (0 : Int) ≤ (E : Int) := by omega
            have t5 : ((b.toNat : Int) == 46) = true := by rw [beq_iff_eq]; omega
            have t6 : E ≤ 1099511627776 := by have := HS.out; omega
            have t7 : k ≤ 8 := HK8.out
            have HP := Lib.hid hp
            have H1 := Lib.hid h1
            clear HPA hp h3
            gi_wp2
            go_roundw
            case rel =>
              refine ⟨k + 1, E + 1, pre ++ [P], by have := HK.out; omega, by have := H1.out; omega, by rw [HPL.out, HP.out]; simp, by rw [List.length_append, HPK.out]; rfl, by go_num, by go_num, J4.out, K4.out⟩
            case measure => have := HK.out; simp [intOf]; omega
      · have J4 := Lib.hid hx4
        clear hx4
        gi_wp2
        refine bodyPost_ret (results_none rfl _ _ _) rfl ?_
        refine ⟨⟨_, rfl⟩, .inr ⟨_, ?_, J4.out⟩⟩
        rw [HPL.out]
        rcases HPA.out with ⟨_, h⟩ | ⟨_, _, _, _, ⟨_, h⟩ | ⟨_, _, _, _, h⟩ | ⟨_, _, _, _, h⟩⟩ <;> (rw [h]; simp)
end Go.Proofs.YtmpokappjogehaaGreatDoor

namespace Go.Proofs.YtmpokappjogehaaGreatDoor
open Go.RowKit Go.Shelf

attribute [local go_sem] Oper.semAt_some

theorem parts_any (s : ByteArray) (w : World) : Calls Tryz.prog 269 #[.string s] w fun r w' => r = .returned (.func (.func 305) #[] #[.pointer (some ⟨w.heap.size, 0, none⟩)]) ∧ Fr Nothing w w' ∧ Blk w' w.heap.size 9 #[.string s] := by
  go_enter Tryz.func269, Tryz.ntmps269
  go_wp2_with (refine wpList_boxBlk rfl 9 (.tmp 0) rfl #[.string s] rfl ?_)
  intro w1 n1
  have N1 := Lib.hid n1
  clear n1
  go_wp2
  go_ret
  exact ⟨rfl, N1.out.fr, N1.out.blk⟩
theorem stage_same {ws : List (Nat × (World → Prop))} {M : World → Prop} (h : ∀ x ∈ ws, x.2 = M) {d : Nat → Bool} {w : World} (hs : stage ws M d w) : M w := by
  induction ws with
  | nil => exact hs
  | cons x r ih =>
    obtain ⟨p, M'⟩ := x
    have e : M' = M := h _ List.mem_cons_self
    subst e
    unfold stage at hs
    split at hs
    · exact ih (fun y hy => h y (List.mem_cons_of_mem _ hy)) hs
    · exact hs
theorem partsR_le : ∀ (n at_ : Nat) (l : List UInt8), (partsR n at_ l).length ≤ n + 1
  | 0, _, _ => by simp [partsR]
  | n + 1, at_, l => by
    rw [partsR]
    simp only
    split
    · simp
    · split
      · simp
      · split
        · simp
        · have := partsR_le n (at_ + (runD 7 l).length + 1) (l.drop ((runD 7 l).length + 1))
          simp only [List.length_cons]
          omega
theorem partsL_le (s : ByteArray) : (partsL s).length ≤ 9 := by
  unfold partsL
  split
  · simp
  · exact partsR_le 8 0 _
/-- Where a part lies in a round. -/
theorem KP.put (W : World) (l : Nat) (o o' : Obj) (h : W.heap[l]? = some o) (hc : o.isCells = false) : KP W (W.putObj l o') :=
  KP.fr (Fr.grown (grownBy_putObj' W l o')) (fun g t cs _ hb e => by
    have e' : g = l := by simpa using e
    subst e'
    unfold Blk at hb
    rw [hb] at h
    cases h
    simp [Obj.isCells] at hc)
/-- All that is turned is new since w0 (but for cells of T). -/
structure InR (w0 w3 W : World) : Prop where
  fr : Fr Nothing w0 W
  kp : KP w3 W
theorem grown_hf {A B : World} {row : Option Nat} {N : Nat} (hg : A.grownBy B row) (hr : ∀ r, row = some r → N ≤ r ∧ ∃ o : Obj, A.heap[r]? = some o ∧ o.isCells = false) :
    Fr (fun k => some k = row) A B ∧ KP A B ∧ (∀ g t cs, Blk A g t cs → Blk B g t cs) := by
  have hf : Fr (fun k => some k = row) A B := Fr.grown hg
  have hb : ∀ g t cs, Blk A g t cs → Blk B g t cs := fun g t cs hb => hb.fr hf (fun e => by
    obtain ⟨_, o, ho, hc⟩ := hr g e.symm
    unfold Blk at hb
    rw [hb] at ho
    cases ho
    simp [Obj.isCells] at hc)
  exact ⟨hf, fun g t cs _ h => hb g t cs h, hb⟩

def opAlloc : Op → Bool
  | .alloc _ => true
  | _ => false
theorem zvStrN (w : World) : (zeroValue 30).run Tryz.prog w = .ok (.string ByteArray.empty) w := by kernel_rfl
theorem zvIntN (w : World) : (zeroValue 3).run Tryz.prog w = .ok (.int .i64 0) w := by kernel_rfl
theorem zvErrN (w : World) : (zeroValue 27).run Tryz.prog w = .ok (.int .i64 0) w := by kernel_rfl
theorem infoLN : (Tryz.prog.info? 30).map (·.size) = some 1 := by kernel_rfl
theorem infoI1 : (Tryz.prog.info? 3).map (·.size) = some 1 := by kernel_rfl
theorem infoE1 : (Tryz.prog.info? 27).map (·.size) = some 1 := by kernel_rfl
/-- The three results of Parse, in memory. -/
structure Res3 (w0 w3 : World) (g2 g3 g4 : Nat) (W : World) : Prop where
  fr : Fr Nothing w0 W
  kp : KP w3 W
  b2 : ∃ n, Blk W g2 30 #[.string n]
  b3 : ∃ a, Blk W g3 3 #[.int .i64 a]
  b4 : ∃ k, Blk W g4 27 #[.int .i64 k]
theorem Res3.later {w0 w3 A B : World} {g2 g3 g4 : Nat} (h : Res3 w0 w3 g2 g3 g4 A) (f : Fr Nothing A B) : Res3 w0 w3 g2 g3 g4 B :=
  ⟨h.fr.trans f, h.kp.trans (KP.fr f (fun _ _ _ _ _ x => x)), by obtain ⟨n, hn⟩ := h.b2; exact ⟨n, hn.fr f (fun x => x)⟩, by obtain ⟨n, hn⟩ := h.b3; exact ⟨n, hn.fr f (fun x => x)⟩, by obtain ⟨n, hn⟩ := h.b4; exact ⟨n, hn.fr f (fun x => x)⟩⟩
theorem Res3.grown {w0 w3 A B : World} {g2 g3 g4 : Nat} {row : Option Nat} {N : Nat} (h : Res3 w0 w3 g2 g3 g4 A) (hg : A.grownBy B row) (hr : ∀ r, row = some r → N ≤ r ∧ ∃ o : Obj, A.heap[r]? = some o ∧ o.isCells = false) (hN : w0.heap.size ≤ N) : Res3 w0 w3 g2 g3 g4 B := by
  obtain ⟨hf, hk, hb⟩ := grown_hf hg hr
  exact ⟨h.fr.then_ hf (fun i hi e => by have := (hr i e.symm).1; omega), h.kp.trans hk, by obtain ⟨n, hn⟩ := h.b2; exact ⟨n, hb _ _ _ hn⟩, by obtain ⟨n, hn⟩ := h.b3; exact ⟨n, hb _ _ _ hn⟩, by obtain ⟨n, hn⟩ := h.b4; exact ⟨n, hb _ _ _ hn⟩⟩
theorem run_loadVar_one {P : Program} (w : World) (g : Nat) (t ty : TypeId) (v : Value) (hg : Blk w g t #[v]) (_hi : (P.info? ty).map (·.size) = some 1) (ha : (isAgg ty).run P w = .ok false w) :
    (loadVar ty ⟨g, 0, none⟩).run P w = .ok v w := by
  have hc : w.cell? ⟨g, 0, none⟩ = some v := hg.cell 0
  simp [loadVar, ha, go_sem, hc]
theorem results_parse (tmps : Array Value) (w : World) (g2 g3 g4 : Nat) (n : ByteArray) (a k : Int)
    (h2 : tmps.getD 2 undef = .pointer (some ⟨g2, 0, none⟩)) (h3 : tmps.getD 3 undef = .pointer (some ⟨g3, 0, none⟩)) (h4 : tmps.getD 4 undef = .pointer (some ⟨g4, 0, none⟩))
    (b2 : Blk w g2 30 #[.string n]) (b3 : Blk w g3 3 #[.int .i64 a]) (b4 : Blk w g4 27 #[.int .i64 k]) :
    (results Tryz.f197 tmps).run Tryz.prog w = .ok (.tuple #[.string n, .int .i64 a, .int .i64 k]) w := by
  have h2' : tmps[2]?.getD undef = .pointer (some ⟨g2, 0, none⟩) := by simpa using h2
  have h3' : tmps[3]?.getD undef = .pointer (some ⟨g3, 0, none⟩) := by simpa using h3
  have h4' : tmps[4]?.getD undef = .pointer (some ⟨g4, 0, none⟩) := by simpa using h4
  simp [results, Tryz.results197, h2', h3', h4', asAddr, run_loadVar_one w g2 _ _ _ b2 infoLN (Tryz.isAgg30 w), run_loadVar_one w g3 _ _ _ b3 infoI1 (Tryz.isAgg3 w), run_loadVar_one w g4 _ _ _ b4 infoE1 (Tryz.isAgg27 w)]
def Parsed (w : World) (s : ByteArray) (r : Ending) (w' : World) : Prop := ∃ n a k, r = .returned (.tuple #[.string n, .int .i64 a, .int .i64 k]) ∧ (k == 0) = validO s ∧ Fr Nothing w w'
set_option maxRecDepth 100000 in
set_option maxHeartbeats 4000000 in
theorem Parse_any (s : ByteArray) (w : World) (hs : s.size ≤ 1099511627776) : Calls Tryz.prog 197 #[.string s] w (Parsed w s) := by
  have HS := Lib.hid hs
  clear hs
  refine (callsIn_wide (n := 6)).1 (callsIn_of_wp_marks Tryz.func197 rfl trivial (wpIn_wide.2 ?_) rfl)
  simp only [Tryz.ntmps197, List.size_toArray, List.length_cons, List.length_nil, Nat.reduceAdd, Nat.reduceSub, Array.replicate_succ, Array.replicate_zero, List.push_toArray, List.append_toArray, List.nil_append, List.cons_append]
  go_wp2_with (refine wpList_allocBlk rfl 30 rfl (.string ByteArray.empty) zvStrN #[.string ByteArray.empty] rfl ?_)
  intro wa na
  have FA := Lib.hid na.fr
  have B2 := Lib.hid na.blk
  have Z2 : Sz w w.heap.size := Nat.le_refl _
  clear na
  generalize w.heap.size = g2 at *
  go_wp2_with (refine wpList_allocBlk rfl 3 rfl (.int .i64 0) zvIntN #[.int .i64 0] rfl ?_)
  intro wb nb
  have FB := Lib.hid (FA.out.trans nb.fr)
  have B2b := Lib.hid (B2.out.fr nb.fr (fun x => x))
  have B3 := Lib.hid nb.blk
  have Z3 : Sz w wa.heap.size := FA.out.size
  clear nb B2 FA
  generalize wa.heap.size = g3 at *
  go_wp2_with (refine wpList_allocBlk rfl 27 rfl (.int .i64 0) zvErrN #[.int .i64 0] rfl ?_)
  intro w2 nc
  have FC := Lib.hid (FB.out.trans nc.fr)
  have B2c := Lib.hid (B2b.out.fr nc.fr (fun x => x))
  have B3c := Lib.hid (B3.out.fr nc.fr (fun x => x))
  have B4c := Lib.hid nc.blk
  have Z4 : Sz w wb.heap.size := FB.out.size
  clear nc B2b B3 FB
  generalize wb.heap.size = g4 at *
  have E2 : Hid (Res3 w w2 g2 g3 g4 w2) := ⟨FC.out, KP.refl _, ⟨_, B2c.out⟩, ⟨_, B3c.out⟩, ⟨_, B4c.out⟩⟩
  have NE : Hid (g2 ≠ g3 ∧ g2 ≠ g4 ∧ g3 ≠ g4) := by
    refine ⟨?_, ?_, ?_⟩ <;> (rintro rfl)
    · have h1 := B2c.out
      have h2 := B3c.out
      unfold Blk at h1 h2
      rw [h1] at h2
      cases h2
    · have h1 := B2c.out
      have h2 := B4c.out
      unfold Blk at h1 h2
      rw [h1] at h2
      cases h2
    · have h1 := B3c.out
      have h2 := B4c.out
      unfold Blk at h1 h2
      rw [h1] at h2
      cases h2
  clear B2c B3c B4c FC
  go_wp2_with fail
  refine (parts_any s _).mono ?_
  rintro r w3 ⟨rfl, f3, b3⟩
  have E3 := Lib.hid (E2.out.later f3)
  have G3 := Lib.hid b3
  clear f3 b3 E2
  generalize w2.heap.size = gs at *
  go_wp2_with fail
  refine (wpIn_wide (n := 6)).1 ?_
  refine wpIn_rangeFunc_ownH rfl (by omega) (gf := 305) (lb := #[.pointer (some ⟨gs, 0, none⟩)]) rfl trivial (enters_of Tryz.func305 (by kernel_rfl) rfl)
    (parts_stops 5 gs s w3 HS.out G3.out) (fun h k => h.trans k) (fun W l o o' _ ho hc _ => KP.put W l o o' ho hc) (Below.refl _ _) (fun _ => rfl)
    (fun pre W => Res3 w w2 g2 g3 g4 W ∧ ∀ y ∈ pre, y.e = 0) (fun cd pre W => Res3 w w2 g2 g3 g4 W ∧ ∃ x ∈ pre, x.e ≠ 0 ∧ Blk W g4 27 #[.int .i64 x.e] ∧ cd = .ret) (fun pre A B row h hg hr => ⟨h.1.grown hg hr E3.out.fr.size, h.2⟩) (fun cd pre A B row h hg hr => by obtain ⟨h1, x, hx, hz, hb, hc⟩ := h; exact ⟨h1.grown hg hr E3.out.fr.size, x, hx, hz, (grown_hf hg hr).2.2 _ _ _ hb, hc⟩) ⟨E3.out, by simp⟩
    (fun x a' W => ∃ g, a' = ({ tmps := #[.string s, undef, .pointer (some ⟨g2, 0, none⟩), .pointer (some ⟨g3, 0, none⟩), .pointer (some ⟨g4, 0, none⟩), .pointer (some ⟨g, 0, none⟩), .string s, .func (.func 305) #[] #[.pointer (some ⟨gs, 0, none⟩)], .agg #[.int .i64 x.ord, .int .i64 x.at_, .int .i64 x.e], undef, undef, undef, undef, undef, undef, undef, undef], defers := [] } : Act) ∧ Blk W g 311 (partC x))
    (fun x a' _ A B row h hg hr => by
      obtain ⟨g, e, hb⟩ := h
      exact ⟨g, e, (grown_hf hg hr).2.2 _ _ _ hb⟩)
    ?assign ?body ?done ?stop
  case assign =>
    intro l pre x W K hI hK
    have HK := Lib.hid hK
    have HI := Lib.hid hI
    clear hK hI
    gi_wp2_with (refine wpListIn_round1 opAlloc rfl (by kernel_rfl) ?_)
    go_wp2_with (refine wpList_allocBlk rfl 311 rfl (.agg partZ) zvPart partZ rfl ?_)
    intro wa na
    have FA := Lib.hid na.fr
    have BA := Lib.hid na.blk
    have Z1 : Sz W W.heap.size := Nat.le_refl _
    clear na
    generalize W.heap.size = g at *
    go_wp2_with (refine wpList_storeBlk rfl 311 (.tmp 5) _ rfl g (partC x) rfl rfl _ _ BA.out infoPart rfl (part_one x) ?_)
    intro wb bb fb
    have FB : Fr Nothing W wb := FA.out.then_ fb (fun i hi e => by have e' : i = g := e; have := Z1; unfold Sz at this; omega)
    refine ⟨?_, rfl⟩
    refine HK.out _ _ ⟨FB.size, fun k o _ ho _ => (FB.block k (Array.getElem?_eq_some_iff.1 ho).1 (fun x => x)).trans ho⟩ (KP.fr FB (fun _ _ _ _ _ x => x)) (⟨HI.out.1.later FB, HI.out.2⟩) ⟨g, rfl, bb⟩
  case body =>
    rintro l' pre x a' W hl hlr hI ⟨g, rfl, hbx⟩ hlt
    have HI := Lib.hid hI
    have E4 := Lib.hid hI.1
    have BX := Lib.hid hbx
    have q2 : W.cell? ⟨g, 2, none⟩ = some (.int .i64 x.e) := hbx.cell 2
    have NX : Hid (¬ (g = g2 ∨ g = g3)) := by
      rintro (rfl | rfl)
      · obtain ⟨n, hn⟩ := hI.1.b2
        unfold Blk at hbx hn
        rw [hbx] at hn
        cases hn
      · obtain ⟨n, hn⟩ := hI.1.b3
        unfold Blk at hbx hn
        rw [hbx] at hn
        cases hn
    clear hI hbx hlt hl hlr
    by_cases hz : x.e = 0
    · have hz2 : ((x.e : Int) == 0) = true := by rw [beq_iff_eq]; omega
      gi_wp2
      refine ⟨KeepsFrom.refl _ _, KP.refl _, HI.out.1, ?_⟩
      intro y hy
      rcases List.mem_append.1 hy with h | h
      · exact HI.out.2 y h
      · rw [List.mem_singleton.1 h]; exact hz
    · have hz2 : ((x.e : Int) == 0) = false := by rw [beq_eq_false_iff_ne]; omega
      have HZ := Lib.hid hz
      gi_wp2
      refine wpIn_round_st 6 (fun k => k = g2 ∨ k = g3) [Is (.pointer (some ⟨g, 1, none⟩)), Is (.int .i64 x.at_), Is (.pointer (some ⟨g, 2, none⟩)), Is (.int .i64 x.e), (fun _ _ => True), (fun _ _ => True)] [(4, (fun W' => (∃ n, Blk W' g2 30 #[.string n]) ∧ (∃ a, Blk W' g3 3 #[.int .i64 a]) ∧ ∃ k, Blk W' g4 27 #[.int .i64 k])), (5, (fun W' => (∃ n, Blk W' g2 30 #[.string n]) ∧ (∃ a, Blk W' g3 3 #[.int .i64 a]) ∧ ∃ k, Blk W' g4 27 #[.int .i64 k]))] (fun W' => (∃ n, Blk W' g2 30 #[.string n]) ∧ (∃ a, Blk W' g3 3 #[.int .i64 a]) ∧ ∃ k, Blk W' g4 27 #[.int .i64 k]) (fun i j => i == 4 && j == 5) (by kernel_rfl) (by kernel_rfl) (by kernel_rfl) (by kernel_rfl) (by kernel_rfl) ⟨Is.stable _, Is.stable _, Is.stable _, Is.stable _, fun _ _ _ _ _ h => h, fun _ _ _ _ _ h => h, trivial⟩ ⟨(fun _ _ _ hf h => ⟨(by obtain ⟨a, ha⟩ := h.1; exact ⟨a, ha.fr hf (fun x => x)⟩), (by obtain ⟨a, ha⟩ := h.2.1; exact ⟨a, ha.fr hf (fun x => x)⟩), (by obtain ⟨a, ha⟩ := h.2.2; exact ⟨a, ha.fr hf (fun x => x)⟩)⟩), (fun _ _ _ hf h => ⟨(by obtain ⟨a, ha⟩ := h.1; exact ⟨a, ha.fr hf (fun x => x)⟩), (by obtain ⟨a, ha⟩ := h.2.1; exact ⟨a, ha.fr hf (fun x => x)⟩), (by obtain ⟨a, ha⟩ := h.2.2; exact ⟨a, ha.fr hf (fun x => x)⟩)⟩), trivial⟩ (fun _ _ _ hf h => ⟨(by obtain ⟨a, ha⟩ := h.1; exact ⟨a, ha.fr hf (fun x => x)⟩), (by obtain ⟨a, ha⟩ := h.2.1; exact ⟨a, ha.fr hf (fun x => x)⟩), (by obtain ⟨a, ha⟩ := h.2.2; exact ⟨a, ha.fr hf (fun x => x)⟩)⟩) ⟨E4.out.b2, E4.out.b3, E4.out.b4⟩ ?_ ?_
      · refine ⟨fun u w' d hf hR k1 k0 kM => ?_, fun u w' d hf hR k1 k0 kM => ?_, fun u w' d hf hR k1 k0 kM => ?_, fun u w' d hf hR k1 k0 kM => ?_, fun u w' d hf hR k1 k0 kM => ?_, fun u w' d hf hR k1 k0 kM => ?_, trivial⟩
        all_goals simp only [List.take_succ_cons, List.take_zero, List.map_cons, List.map_nil, puts, Act.put, List.setIfInBounds_toArray, List.set_cons_zero, List.set_cons_succ, Nat.reduceAdd, Nat.zero_add]
        · clear hR k1 k0 kM
          refine .inl ⟨by kernel_rfl, ?_⟩
          go_simp
          exact ⟨_, rfl, Fr.refl _ _, rfl, trivial⟩
        · have h0 : u 0 = _ := hR 0 (by kernel_rfl)
          clear hR k1 k0 kM
          simp only [h0]
          refine .inl ⟨by kernel_rfl, ?_⟩
          have q : w'.cell? ⟨g, 1, none⟩ = some _ := (BX.out.fr hf NX.out).cell 1
          go_simp
          exact ⟨_, rfl, Fr.refl _ _, rfl, trivial⟩
        · clear hR k1 k0 kM
          refine .inl ⟨by kernel_rfl, ?_⟩
          go_simp
          exact ⟨_, rfl, Fr.refl _ _, rfl, trivial⟩
        · have h2 : u 2 = _ := hR 2 (by kernel_rfl)
          clear hR k1 k0 kM
          simp only [h2]
          refine .inl ⟨by kernel_rfl, ?_⟩
          have q : w'.cell? ⟨g, 2, none⟩ = some _ := (BX.out.fr hf NX.out).cell 2
          go_simp
          exact ⟨_, rfl, Fr.refl _ _, rfl, trivial⟩
        · clear hR k1 k0
          refine .inl ⟨by kernel_rfl, ?_⟩
          obtain ⟨⟨n, h2⟩, h3, h4⟩ := stage_same (by simp) kM
          refine wp_storeOne 30 (.tmp 2) _ rfl g2 0 (.string ByteArray.empty) rfl rfl rfl infoLN _ _ #[.string ByteArray.empty] h2 (by simp) rfl ?_
          intro wq bq fq
          refine ⟨_, rfl, fq.mono (fun i _ h => .inl h), trivial, ⟨_, bq⟩, ?_, ?_⟩
          · obtain ⟨a, ha⟩ := h3; exact ⟨a, ha.fr fq (fun e => NE.out.1 e.symm)⟩
          · obtain ⟨a, ha⟩ := h4; exact ⟨a, ha.fr fq (fun e => NE.out.2.1 e.symm)⟩
        · have h1 : u 1 = _ := hR 1 (by kernel_rfl)
          clear hR k1 k0
          simp only [h1]
          refine .inl ⟨by kernel_rfl, ?_⟩
          obtain ⟨h2, ⟨n, h3⟩, h4⟩ := stage_same (by simp) kM
          refine wp_storeOne 3 (.tmp 3) _ rfl g3 0 (.int .i64 x.at_) rfl rfl rfl infoI1 _ _ #[.int .i64 x.at_] h3 (by simp) rfl ?_
          intro wq bq fq
          refine ⟨_, rfl, fq.mono (fun i _ h => .inr h), trivial, ?_, ⟨_, bq⟩, ?_⟩
          · obtain ⟨a, ha⟩ := h2; exact ⟨a, ha.fr fq (fun e => NE.out.1 e)⟩
          · obtain ⟨a, ha⟩ := h4; exact ⟨a, ha.fr fq (fun e => NE.out.2.2 e.symm)⟩
      · intro u w' hf hR kM
        have k3 : u 3 = _ := hR 3 (by omega)
        obtain ⟨h2, h3, k, h4⟩ := kM
        have KB2 := Lib.hid h2
        have KB3 := Lib.hid h3
        have KB4 := Lib.hid h4
        have KF := Lib.hid hf
        clear hR h2 h3 h4 hf
        simp only [List.take_succ_cons, List.take_zero, List.map_cons, List.map_nil, puts, Act.put, List.setIfInBounds_toArray, List.set_cons_zero, List.set_cons_succ, List.drop_succ_cons, List.drop_zero, Nat.reduceAdd, Nat.zero_add, k3]
        clear k3
        go_wp2_with (refine wpList_storeOne rfl 27 (.tmp 4) _ rfl g4 0 (.int .i64 x.e) rfl rfl rfl infoE1 _ _ #[.int .i64 x.e] KB4.out (by simp) rfl ?_)
        intro wq bq fq
        have FF : Fr (fun k => k = g2 ∨ k = g3 ∨ k = g4) W wq := (KF.out.mono (fun i _ h => h.elim .inl (fun h => .inr (.inl h)))).trans (fq.mono (fun i _ h => .inr (.inr h)))
        have CE : ∀ k, k = g2 ∨ k = g3 ∨ k = g4 → ∃ t cs, Blk W k t cs ∧ t ≠ 9 ∧ t ≠ 311 := by
          rintro k (rfl | rfl | rfl)
          · obtain ⟨n, hn⟩ := E4.out.b2; exact ⟨_, _, hn, by decide, by decide⟩
          · obtain ⟨n, hn⟩ := E4.out.b3; exact ⟨_, _, hn, by decide, by decide⟩
          · obtain ⟨n, hn⟩ := E4.out.b4; exact ⟨_, _, hn, by decide, by decide⟩
        have KK : KP W wq := KP.fr FF (fun q t cs ht hb hq => by
          obtain ⟨t', cs', hb', h1, h2⟩ := CE q hq
          unfold Blk at hb hb'
          rw [hb] at hb'
          cases hb'
          rcases ht with rfl | rfl
          · exact h1 rfl
          · exact h2 rfl)
        refine ⟨?_, rfl⟩
        gi_wp2
        refine ⟨⟨FF.size, fun q o hB ho hc => (FF.block q (Array.getElem?_eq_some_iff.1 ho).1 (fun hq => ?_)).trans ho⟩, ⟨⟨?_, E4.out.kp.trans KK, ?_, ?_, ⟨_, bq⟩⟩, x, by simp, HZ.out, bq, rfl⟩⟩
        · obtain ⟨t', cs', hb', _, _⟩ := CE q hq
          unfold Blk at hb'
          rw [ho] at hb'
          cases hb'
          simp [Obj.isCells] at hc
        · exact E4.out.fr.then_ FF (fun i hi e => by
            have h2 := Z2; have h3 := Z3; have h4 := Z4
            unfold Sz at h2 h3 h4
            omega)
        · obtain ⟨n, hn⟩ := KB2.out
          exact ⟨n, hn.fr fq (fun e => NE.out.2.1 e)⟩
        · obtain ⟨n, hn⟩ := KB3.out
          exact ⟨n, hn.fr fq (fun e => NE.out.2.2 e)⟩
  case done =>
    rintro D xs W hD rfl hI hK
    obtain ⟨hE, hall⟩ := hI
    have PF : Fr (fun k => some k = some D) W (W.putObj D (.deferred none)) := Fr.grown (grownBy_putObj' W D _)
    have KD := Lib.hid hK
    have hV : Hid (validO s = true) := by
      simp only [Hid, validO, List.all_eq_true, beq_iff_eq]
      exact hall
    obtain ⟨n, b2⟩ := hE.b2
    obtain ⟨a, b3⟩ := hE.b3
    obtain ⟨k, b4⟩ := hE.b4
    have B2 := Lib.hid b2
    have B3 := Lib.hid b3
    have B4 := Lib.hid b4
    have HE := Lib.hid hE
    have HD := Lib.hid hD
    clear PF hE b2 b3 b4 hD hK hall
    go_wp2_with (refine wpList_storeOne rfl 30 (.tmp 2) _ rfl g2 0 (.string s) rfl rfl rfl infoLN _ _ #[.string s] B2.out (by simp) rfl ?_)
    intro wx bx fx
    have X3 := Lib.hid (B3.out.fr fx (fun e => NE.out.1 e.symm))
    have X4 := Lib.hid (B4.out.fr fx (fun e => NE.out.2.1 e.symm))
    have X2 := Lib.hid bx
    have FX := Lib.hid fx
    clear bx fx B2 B3 B4
    go_wp2_with (refine wpList_storeOne rfl 3 (.tmp 3) _ rfl g3 0 (.int .i64 0) rfl rfl rfl infoI1 _ _ #[.int .i64 0] X3.out (by simp) rfl ?_)
    intro wy by_ fy
    have Y2 := Lib.hid (X2.out.fr fy (fun e => NE.out.1 e))
    have Y4 := Lib.hid (X4.out.fr fy (fun e => NE.out.2.2 e.symm))
    have Y3 := Lib.hid by_
    have FY := Lib.hid fy
    clear by_ fy X2 X3 X4
    go_wp2_with (refine wpList_storeOne rfl 27 (.tmp 4) _ rfl g4 0 (.int .i64 0) rfl rfl rfl infoE1 _ _ #[.int .i64 0] Y4.out (by simp) rfl ?_)
    intro wz bz fz
    have V2 := Lib.hid (Y2.out.fr fz (fun e => NE.out.2.1 e))
    have V3 := Lib.hid (Y3.out.fr fz (fun e => NE.out.2.2 e))
    have V4 := Lib.hid bz
    have FF : Hid (Fr (fun k => k = g2 ∨ k = g3 ∨ k = g4) W wz) := ((FX.out.mono (fun i _ h => .inl h)).trans (FY.out.mono (fun i _ h => .inr (.inl h)))).trans (fz.mono (fun i _ h => .inr (.inr h)))
    have KD2 : Hid (wz.heap[D]? = some (.deferred (some []))) := by
      refine (FF.out.block D (Array.getElem?_eq_some_iff.1 KD.out).1 (fun hq => ?_)).trans KD.out
      have hd := KD.out
      rcases hq with rfl | rfl | rfl
      · obtain ⟨n, hn⟩ := HE.out.b2; unfold Blk at hn; rw [hd] at hn; cases hn
      · obtain ⟨n, hn⟩ := HE.out.b3; unfold Blk at hn; rw [hd] at hn; cases hn
      · obtain ⟨n, hn⟩ := HE.out.b4; unfold Blk at hn; rw [hd] at hn; cases hn
    clear bz fz FX FY KD Y2 Y3 Y4
    go_wp2
    refine ⟨by simp, .inl ⟨_, _, rfl, run_takeDeferred KD2.out, ?_⟩⟩
    have PF : Fr (fun k => some k = some D) wz (wz.putObj D (.deferred none)) := Fr.grown (grownBy_putObj' wz D _)
    have nD : ∀ g t cs, Blk wz g t cs → ¬ (some g = some D) := fun g t cs hb e => by
      have e' : g = D := by simpa using e
      subst e'
      unfold Blk at hb
      rw [KD2.out] at hb
      cases hb
    refine ⟨_, results_parse _ _ g2 g3 g4 s 0 0 rfl rfl rfl (V2.out.fr PF (nD _ _ _ V2.out)) (V3.out.fr PF (nD _ _ _ V3.out)) (V4.out.fr PF (nD _ _ _ V4.out)), ⟨_, _, _, rfl, ?_, ?_⟩⟩
    · rw [hV.out]; rfl
    · refine (HE.out.fr.then_ FF.out (fun i hi e => ?_)).then_ PF (fun i hi e => ?_)
      · have h2 := Z2; have h3 := Z3; have h4 := Z4
        unfold Sz at h2 h3 h4
        omega
      · have e' : i = D := by simpa using e
        have := HD.out
        have := E3.out.fr.size
        omega
  case stop =>
    rintro D cd pre W hD hpre ⟨hE, x, hx, hz, hb4, rfl⟩ hK
    have KD := Lib.hid hK
    have HD := Lib.hid hD
    have hV : Hid (validO s = false) := by
      simp only [Hid]
      rw [Bool.eq_false_iff]
      intro h
      rw [validO, List.all_eq_true] at h
      have := h x (hpre.subset hx)
      simp only [beq_iff_eq] at this
      exact hz this
    obtain ⟨n, b2⟩ := hE.b2
    obtain ⟨a, b3⟩ := hE.b3
    have HE := Lib.hid hE
    have HZ := Lib.hid hz
    have B2 := Lib.hid b2
    have B3 := Lib.hid b3
    have B4 := Lib.hid hb4
    clear hE b2 b3 hb4 hz hK hD hpre hx
    gi_wp2
    refine ⟨by simp, .inl ⟨_, _, rfl, run_takeDeferred KD.out, ?_⟩⟩
    have PF : Fr (fun k => some k = some D) W (W.putObj D (.deferred none)) := Fr.grown (grownBy_putObj' W D _)
    have nD : ∀ g t cs, Blk W g t cs → ¬ (some g = some D) := fun g t cs hb e => by
      have e' : g = D := by simpa using e
      subst e'
      unfold Blk at hb
      rw [KD.out] at hb
      cases hb
    refine ⟨_, results_parse _ _ g2 g3 g4 n a x.e rfl rfl rfl (B2.out.fr PF (nD _ _ _ B2.out)) (B3.out.fr PF (nD _ _ _ B3.out)) (B4.out.fr PF (nD _ _ _ B4.out)), ⟨_, _, _, rfl, ?_, ?_⟩⟩
    · rw [hV.out, beq_eq_false_iff_ne]
      have := HZ.out
      omega
    · refine HE.out.fr.then_ PF (fun i hi e => ?_)
      have e' : i = D := by simpa using e
      have := HD.out
      have := E3.out.fr.size
      omega

set_option maxRecDepth 100000 in
theorem Valid_any (s : ByteArray) (w : World) (hs : s.size ≤ 1099511627776) : Calls Tryz.prog 98 #[.string s] w (Same' w (.bool (validO s))) := by
  have CP := Lib.hid (Parse_any s w hs)
  go_enter Tryz.func98, Tryz.ntmps98
  go_wp2_with fail
  refine CP.out.mono ?_
  rintro e w1 ⟨n, a, k, rfl, hk, f1⟩
  have HK := Lib.hid hk
  have F1 := Lib.hid f1
  clear hk f1 CP
  go_wp2
  go_ret
  rw [HK.out]
  exact ⟨rfl, F1.out⟩
end Go.Proofs.YtmpokappjogehaaGreatDoor
