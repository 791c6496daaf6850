/- The walk of the law CodecWrites. -/
import Derived.Test.YtfopfhdijdefiaaCodecR
namespace Go.Proofs.Ytfopfhdijdefiaa
open Go.RowKit

theorem shortL_mem (l : List VV) (hok : ∀ v ∈ l, v.ok) : ∀ v ∈ shortL l, v.ok ∧ v.s.size ≤ 200 := by
  intro v hv
  simp only [shortL, shortK, List.mem_map] at hv
  obtain ⟨u, hu, rfl⟩ := hv
  have ho := hok u (List.mem_of_mem_take hu)
  have hsz : (u.s.extract 0 (min u.s.size 200)).size ≤ 200 := by simp; omega
  exact ⟨⟨ho.kind, ho.n1, ho.n2, by simp only [VV.cutS]; omega, ho.m1, ho.m2⟩, hsz⟩

theorem shortL_len (l : List VV) : (shortL l).length ≤ 40 := shortK_length l 40

theorem GrewV.rd {w w' : World} {v : Value} {A : Option Addr} {n c : Nat} {l : List VV} (h : GrewV w v w' (.slice A n c) l) (hn : n = l.length) : Rd w' (Rows1 (.slice A n c)) 5 A n (vcells l) := by
  subst hn
  exact Rd.of_own h.own

set_option maxRecDepth 100000 in
set_option maxHeartbeats 2000000 in
theorem CodecWrites_any (A : Option Addr) (n c : Nat) (l : List VV) (w : World) (S : Nat → Prop) (hr : Rd w S 5 A n (vcells l)) (hok : ∀ v ∈ l, v.ok) (hn : n ≤ 9223372036854775807) :
    Calls Try.prog 4 #[.slice A n c] w (TrueNew w) := by
  have hsm := shortL_mem l hok
  have hsl := shortL_len l
  have HSM := Lib.hid hsm
  clear hsm
  have HC := Lib.hid (short_any A n c l w S hr hok hn)
  clear hr hok
  go_enter Try.func4, Try.ntmps4
  go_wp2_with fail
  refine HC.out.mono ?_
  clear HC
  rintro e w1 ⟨v1, rfl, hg1⟩
  obtain ⟨A1, n1, c1, rfl, H1, _⟩ := own_slice hg1.own
  have hn1 : n1 ≤ 40 := by rw [H1.out]; exact hsl
  have HR1 := Lib.hid (GrewV.rd hg1 H1.out)
  have HF1 := Lib.hid hg1.fr0
  have HN1 : Hid (∀ k, Rows1 (.slice A1 n1 c1) k → k < w1.heap.size) := fun k hk => (hg1.own.lt k hk).2
  clear hg1
  generalize shortL l = L at HSM hsl H1 HR1
  go_wp2_with fail
  refine (NewWriter_any _).mono ?_
  rintro e w2 ⟨rfl, h2, hf2⟩
  have HW2 := Lib.hid h2
  have HF2 := Lib.hid hf2
  clear h2 hf2
  go_wp2_with fail
  have HA := Lib.hid ((Fr.refl Nothing w2).alloc (.cells #[.slice none 0 0, .int .i64 0] 37))
  have hsz : w1.heap.size < w2.heap.size := HW2.out.blk.lt
  have HZ0 : Hid (Wr (w2.alloc (.cells #[.slice none 0 0, .int .i64 0] 37)) w2.heap.size (.slice none 0 0) [] 0) := ⟨Blk.new _ _ _, World.ownsRow_nil _ _ _ _⟩
  have HW0 : Hid (Wr (w2.alloc (.cells #[.slice none 0 0, .int .i64 0] 37)) w1.heap.size (.slice none 0 0) [] 0) := HW2.out.far HA.out (fun _ _ x => x)
  have hsz3 : (w2.alloc (.cells #[.slice none 0 0, .int .i64 0] 37)).heap.size = w2.heap.size + 1 := by simp
  have HSZ3 := Lib.hid hsz3
  clear hsz3
  have HR3 : Hid (Rd (w2.alloc (.cells #[.slice none 0 0, .int .i64 0] 37)) (Rows1 (.slice A1 n1 c1)) 5 A1 n1 (vcells L)) := (HR1.out.fr0 HF2.out).fr0 HA.out
  have HF3 : Hid (Fr Nothing w (w2.alloc (.cells #[.slice none 0 0, .int .i64 0] 37))) := (HF1.out.trans HF2.out).trans HA.out
  have HS1 := Lib.hid HF1.out.size
  clear HA HW2 HF2 HR1
  generalize w2.alloc (.cells #[.slice none 0 0, .int .i64 0] 37) = w3 at HZ0 HW0 HSZ3 HR3 HF3 ⊢
  refine (write_any w1.heap.size (.slice none 0 0) [] 0 A1 n1 c1 L w3 _ HW0.out HR3.out (fun k hk h => by
    have := HN1.out k hk
    rcases h with h | h
    · omega
    · simp [Value.ownBlock] at h) (fun v hv => (HSM.out v hv).1) (fun v hv => by have := (HSM.out v hv).2; omega) (by omega) (by simp)).mono ?_
  rintro e w4 ⟨rfl, v4, h4⟩
  have HS4 := Lib.hid h4
  have HZ4 : Hid (Wr w4 w2.heap.size (.slice none 0 0) [] 0) := HZ0.out.far h4.fr (fun k hk h => by
    rcases hk with hk | hk
    · rcases h with h | h
      · omega
      · simp [Value.ownBlock] at h
    · simp [Value.ownBlock] at hk)
  have HR4 : Hid (Rd w4 (Rows1 (.slice A1 n1 c1)) 5 A1 n1 (vcells L)) := HR3.out.fr h4.fr (fun k hk h => by
    have := HN1.out k hk
    rcases h with h | h
    · omega
    · simp [Value.ownBlock] at h)
  clear h4
  go_wp2_with fail
  refine (write_any w2.heap.size (.slice none 0 0) [] 0 A1 n1 c1 L w4 _ HZ4.out HR4.out (fun k hk h => by
    have := HN1.out k hk
    rcases h with h | h
    · omega
    · simp [Value.ownBlock] at h) (fun v hv => (HSM.out v hv).1) (fun v hv => by have := (HSM.out v hv).2; omega) (by omega) (by simp)).mono ?_
  rintro e w5 ⟨rfl, v5, h5⟩
  have HS5 := Lib.hid h5
  have HW5 : Hid (Wr w5 w1.heap.size v4 (writeL ([], 0) L).1 (writeL ([], 0) L).2) := HS4.out.wr.far h5.fr (fun k hk h => by
    rcases h with h | h
    · rcases hk with hk | hk
      · omega
      · rcases HS4.out.lies k hk with h6 | h6
        · simp [Value.ownBlock] at h6
        · have := HSZ3.out; omega
    · simp [Value.ownBlock] at h)
  have HR5 : Hid (Rd w5 (Rows1 (.slice A1 n1 c1)) 5 A1 n1 (vcells L)) := HR4.out.fr h5.fr (fun k hk h => by
    have := HN1.out k hk
    rcases h with h | h
    · omega
    · simp [Value.ownBlock] at h)
  have HF5 : Hid (Fr Nothing w w5) := (HF3.out.then_ HS4.out.fr (fun i hi h => by
    have := HS1.out
    rcases h with h | h
    · omega
    · simp [Value.ownBlock] at h)).then_ h5.fr (fun i hi h => by
    have := HS1.out
    rcases h with h | h
    · omega
    · simp [Value.ownBlock] at h)
  have hlb : (writeL ([], 0) L).1.length ≤ 1099511627776 := by
    have := writeK_length ([], 0) L 200 (fun v hv => (HSM.out v hv).2) L.length (Nat.le_refl _)
    simp only [writeK, List.take_length, List.length_nil] at this
    have h6 : L.length * (10 + 200) ≤ 40 * 210 := Nat.mul_le_mul_right _ hsl
    omega
  clear h5
  go_wp2_with fail
  refine (wBytes_any _ _ _ _ _ HW5.out hlb).mono ?_
  rintro e w6 h6
  have HZ5 := Lib.hid HS5.out.wr
  clear HS5 HS4 HZ4 HZ0 HW0 HF3 HR3 HR4
  have HRW := Lib.hid (fun w' (h : Rd w' (Rows1 (.slice A1 n1 c1)) 5 A1 n1 (vcells L)) => refWrite_any A1 n1 c1 L w' _ h (fun v hv => (HSM.out v hv).1) (fun v hv => by have := (HSM.out v hv).2; omega) (by omega))
  generalize hst : writeL ([], 0) L = st at HW5 hlb h6 HZ5 HRW
  obtain ⟨R, f⟩ := st
  clear hst
  simp only at HW5 hlb h6 HZ5
  by_cases hf : f = 0
  · subst hf
    obtain ⟨v6, rfl, hg6⟩ := h6.2 rfl
    obtain ⟨A6, n6, c6, rfl, H6, _⟩ := own_slice hg6.own
    have HG6 := Lib.hid hg6
    clear h6 hg6
    go_wp2_with fail
    refine (wBytes_any _ _ _ _ _ (HZ5.out.far HG6.out.fr0 (fun _ _ x => x)) hlb).mono ?_
    rintro e w7 h7
    obtain ⟨v7, rfl, hg7⟩ := h7.2 rfl
    obtain ⟨A7, n7, c7, rfl, H7, _⟩ := own_slice hg7.own
    have HG7 := Lib.hid hg7
    clear h7 hg7
    go_wp2_with fail
    refine (HRW.out _ ((HR5.out.fr0 HG6.out.fr0).fr0 HG7.out.fr0)).mono ?_
    rintro e w8 h8
    obtain ⟨v8, rfl, hg8⟩ := h8.2 rfl
    obtain ⟨A8, n8, c8, rfl, H8, _⟩ := own_slice hg8.own
    have HG8 := Lib.hid hg8
    clear h8 hg8
    have hcv1 := run_strT w8 _ A6 n6 c6 _ (((OwnB.rd HG6.out.own H6.out).fr0 HG7.out.fr0).fr0 HG8.out.fr0)
    have hcv2 := run_strT w8 _ A7 n7 c7 _ ((OwnB.rd HG7.out.own H7.out).fr0 HG8.out.fr0)
    have hcv3 := run_strT w8 _ A8 n8 c8 _ (OwnB.rd HG8.out.own H8.out)
    go_wp2_with fail
    clear hcv1 hcv2 hcv3
    refine (known_any _).mono ?_
    rintro e w9 ⟨rfl, hf9⟩
    have HF9 := Lib.hid hf9
    clear hf9
    go_wp2_with fail
    refine (wLen_any _ _ _ _ _ (((HW5.out.far HG6.out.fr0 (fun _ _ x => x)).far (HG7.out.fr0.trans HG8.out.fr0) (fun _ _ x => x)).far HF9.out (fun _ _ x => x))).mono ?_
    rintro e w10 ⟨rfl, rfl⟩
    have hqq : ((R.length : Int) == (n8 : Int)) = true := by rw [H8.out]; simp
    go_wp2
    go_ret
    exact ⟨rfl, (((HF5.out.trans HG6.out.fr0).trans HG7.out.fr0).trans HG8.out.fr0).trans HF9.out⟩
  · obtain ⟨rfl, hg6⟩ := h6.1 hf
    have HG6 := Lib.hid hg6
    have hfb : (f != 0) = true := by rw [bne_iff_ne]; exact hf
    have HFN := Lib.hid hf
    clear h6 hg6 hf
    go_wp2_with fail
    refine (wBytes_any _ _ _ _ _ (HZ5.out.far HG6.out (fun _ _ x => x)) hlb).mono ?_
    rintro e w7 h7
    obtain ⟨rfl, hg7⟩ := h7.1 HFN.out
    have HG7 := Lib.hid hg7
    clear h7 hg7
    go_wp2_with fail
    refine (HRW.out _ ((HR5.out.fr0 HG6.out).fr0 HG7.out)).mono ?_
    rintro e w8 h8
    obtain ⟨rfl, hg8⟩ := h8.1 HFN.out
    have HG8 := Lib.hid hg8
    clear h8 hg8
    have hcv1 := run_strT w8 (fun _ => False) none 0 0 [] Rd.none_
    go_wp2_with fail
    clear hcv1
    refine (known_any _).mono ?_
    rintro e w9 ⟨rfl, hf9⟩
    have HF9 := Lib.hid hf9
    clear hf9
    go_wp2
    go_ret
    exact ⟨rfl, (((HF5.out.trans HG6.out).trans HG7.out).trans HG8.out).trans HF9.out⟩
end Go.Proofs.Ytfopfhdijdefiaa
