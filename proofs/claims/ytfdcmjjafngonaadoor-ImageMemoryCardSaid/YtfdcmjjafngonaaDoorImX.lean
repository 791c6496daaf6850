/- The iterator over an image's pages, with its rounds. -/
import Derived.Test.YtfdcmjjafngonaaDoorImU
namespace Go.Proofs.YtfdcmjjafngonaaDoor
open Go.RowKit Go.Shelf

attribute [local go_sem] Oper.semAt_some

theorem range_snoc (k : Nat) : List.range k ++ [k] = List.range (k + 1) := (List.range_succ).symm

set_option maxRecDepth 100000 in
set_option maxHeartbeats 1000000 in
theorem pages_stops (m B N : Nat) (c d : ByteArray) (z e : Int) (M : ByteArray) (w : World) (CM0 : ∀ w', Calls Tryd.prog 30 #[imgV c d z e] w' (SameIn w' (.string M))) (hM : M.size = 64 * N) (hN : N ≤ 64)
    (hB : Blk w B 27 (imgC c d z e)) :
    SeqStopsK Fence.wide m Tryd.prog 65 #[.pointer (some ⟨B, 0, none⟩)] (fun k : Nat => #[Value.string (M.extract (64 * k) (64 * k + 64))]) (fun _ _ => True) (fun ys => ys = List.range N) (fun _ => True) N w := by
  intro l J Jx W hW hJ _ hY h0
  have CM := Lib.hid CM0
  have HJ := Lib.hid hJ
  have HY := Lib.hid hY
  have H0 := Lib.hid h0
  have HM := Lib.hid hM
  obtain ⟨k0', k1', k2', k3'⟩ := img_cells hB (Fr.refl _ _)
  have k0 := (hW.cell (p := ⟨B, 0, none⟩) hB.lt).trans k0'
  have k1 := (hW.cell (p := ⟨B, 1, none⟩) hB.lt).trans k1'
  have k2 := (hW.cell (p := ⟨B, 2, none⟩) hB.lt).trans k2'
  have k3 := (hW.cell (p := ⟨B, 3, none⟩) hB.lt).trans k3'
  clear hM k0' k1' k2' k3' hB hJ h0 hW hY CM0
  refine callsIn_of_wp Tryd.func65 rfl trivial ?_ rfl
  simp only [Tryd.ntmps65, List.size_toArray, List.length_cons, List.length_nil, Nat.reduceAdd, Nat.reduceSub, Array.replicate_succ, Array.replicate_zero, List.push_toArray, List.append_toArray, List.nil_append, List.cons_append]
  gi_wp2_with fail
  refine ⟨trivial, (fun h => by cases h), (callsIn_wide.2 (CM.out _)).mono ?_⟩
  rintro r W1 ⟨rfl, f1⟩
  have J1 := Lib.hid (HJ.out [] W W1 none H0.out (Fr.grown0 f1) (fun r e => by cases e))
  clear f1 k0 k1 k2 k3 HJ H0 CM
  gi_wp2
  gi_loopw [4] (fun v wr => ∃ k : Nat, k ≤ N ∧ v = .int .i64 ((64 * k : Nat) : Int) ∧ J (List.range k) wr) (fun v _ => 64 * N - (intOf v).toNat)
  case atStart => exact ⟨0, Nat.zero_le _, rfl, J1.out⟩
  case round =>
    obtain ⟨k, hk, rfl, hJs⟩ := hrel
    have HJs := Lib.hid hJs
    clear hJs J1
    by_cases hlt : k < N
    · obtain ⟨fn, tmps, assign, body, hy, hR⟩ := HY.out (List.range k) k wr HJs.out (by simp; exact hlt)
      have HR := Lib.hid hR
      obtain ⟨q, hq⟩ : ∃ q : Nat, q = 64 * k := ⟨_, rfl⟩
      rw [← hq] at hy ⊢
      have hM := HM.out
      have t1 : q < M.size := by omega
      have t1' : ((q : Nat) : Int) < (M.size : Int) := by omega
      have t0 : q ≤ q + 64 := by omega
      have t0' : ((q : Nat) : Int) ≤ ((q + 64 : Nat) : Int) := by omega
      have q4 : q ≤ 4096 := by omega
      obtain ⟨q2, hq2⟩ : ∃ q2 : Nat, q2 = q + 64 := ⟨_, rfl⟩
      rw [← hq2] at hy
      have t2 : ((q : Nat) : Int) + 64 = (q2 : Int) := by omega
      have t3 : q2 ≤ M.size := by omega
      have t4 : (q2 : Int) ≤ (M.size : Int) := by omega
      have t0 : q ≤ q2 := by omega
      have t0' : ((q : Nat) : Int) ≤ (q2 : Int) := by omega
      have t1 : q < M.size := by omega
      have t1' : ((q : Nat) : Int) < (M.size : Int) := by omega
      have HQ : Hid (q = 64 * k ∧ q2 = q + 64) := ⟨hq, hq2⟩
      have q4 : q ≤ 4096 := by omega
      have t2 : ((q : Nat) : Int) + 64 = ((q + 64 : Nat) : Int) := by omega
      have t3 : q + 64 ≤ M.size := by omega
      have t4 : ((q + 64 : Nat) : Int) ≤ (M.size : Int) := by omega
      clear hR hM hq hq2
      gi_wp2
      refine ⟨(fun h => by cases h), HR.out.mono ?_⟩
      rintro e W3 (⟨rfl, hJ3, _⟩ | ⟨rfl, hJx3⟩)
      · have KJ3 := Lib.hid hJ3
        clear hJ3
        gi_wp2
        go_roundw
        case rel => exact ⟨k + 1, by omega, by have := HQ.out; go_num, by rw [← range_snoc]; exact KJ3.out⟩
        case measure => have := HQ.out; simp [intOf]; omega
      · gi_wp2
        refine bodyPost_ret (results_none rfl _ _ _) rfl ?_
        exact ⟨⟨_, rfl⟩, .inr ⟨_, trivial, hJx3⟩⟩
    · obtain rfl : k = N := by omega
      have t1 : ¬ (64 * k < M.size) := by have := HM.out; omega
      gi_wp2
      go_end0
      exact ⟨⟨_, rfl⟩, .inl ⟨_, rfl, HJs.out⟩⟩
end Go.Proofs.YtfdcmjjafngonaaDoor
