/- Words, sums and the schedule's block: shared by the program's compress and the reference's schedule. -/
import Derived.Test.YtkaghbpdnmigmaaDoorShaA
import Derived.Test.YtkaghbpdnmigmaaDoorShaM
namespace Go.Proofs.YtkaghbpdnmigmaaDoor
open Go.RowKit

theorem wrap_add32 (a b : Nat) : IntKind.u32.wrap ((a : Int) + (b : Int)) = ((add32 a b : Nat) : Int) := by
  rw [IntKind.wrap_u32]
  unfold add32
  omega
theorem sched_lt (b : List UInt8) (k i : Nat) (x : Nat) (hx : x = (schedL b k)[i]?.getD 0) : x < 4294967296 := by
  rcases h : (schedL b k)[i]? with _ | y
  · rw [hx, h]; simp
  · rw [hx, h]; exact schedL_lt b k y (List.mem_of_getElem? h)
theorem sig0_steps (x : Nat) (hx : x < 4294967296) : ∃ a : Nat, bits .xor .u32 ((rotr 7 x : Nat) : Int) ((rotr 18 x : Nat) : Int) = (a : Int) ∧ bits .xor .u32 (a : Int) ((x : Int) / 8) = ((sig0 x : Nat) : Int) := by
  refine ⟨xor32 (rotr 7 x) (rotr 18 x), u32_xor_nat _ _ (rotr_lt 7 x hx) (rotr_lt 18 x hx), ?_⟩
  rw [show (x : Int) / 8 = ((x / 8 : Nat) : Int) by omega, u32_xor_nat _ _ (xor_lt32 (rotr_lt 7 x hx) (rotr_lt 18 x hx)) (by omega)]
  rfl
theorem sig1_steps (x : Nat) (hx : x < 4294967296) : ∃ a : Nat, bits .xor .u32 ((rotr 17 x : Nat) : Int) ((rotr 19 x : Nat) : Int) = (a : Int) ∧ bits .xor .u32 (a : Int) ((x : Int) / 1024) = ((sig1 x : Nat) : Int) := by
  refine ⟨xor32 (rotr 17 x) (rotr 19 x), u32_xor_nat _ _ (rotr_lt 17 x hx) (rotr_lt 19 x hx), ?_⟩
  rw [show (x : Int) / 1024 = ((x / 1024 : Nat) : Int) by omega, u32_xor_nat _ _ (xor_lt32 (rotr_lt 17 x hx) (rotr_lt 19 x hx)) (by omega)]
  rfl

/-- The schedule so far, in its own block. -/
def SchedW (w wr : World) (g : Nat) (l : List Nat) : Prop :=
  Fr Nothing w wr ∧ w.heap.size = g ∧ Blk wr g 122 ((l ++ List.replicate (64 - l.length) 0).map u32v).toArray
theorem SchedW.at_ {w wr : World} {g : Nat} {l : List Nat} (h : SchedW w wr g l) {k : Nat} (hk : k < 64) : ∃ u, wr.cell? ⟨g, k, none⟩ = some u := by
  rw [h.2.2.cell]
  simp only [List.getElem?_toArray]
  refine ⟨_, List.getElem?_eq_getElem ?_⟩
  simp; omega
theorem SchedW.get {w wr : World} {g : Nat} {l : List Nat} (h : SchedW w wr g l) {k : Nat} (hk : k < l.length) : wr.cell? ⟨g, k, none⟩ = some (u32v (l[k]?.getD 0)) := by
  rw [h.2.2.cell]
  simp only [List.getElem?_toArray, List.getElem?_map]
  rw [List.getElem?_append_left hk, List.getElem?_eq_getElem hk]
  rfl
theorem SchedW.drew {w wr : World} {g : Nat} {l : List Nat} (h : SchedW w wr g l) : SchedW w wr.drew g l := ⟨h.1.drew, h.2.1, h.2.2.drew⟩
theorem SchedW.drewN {w wr : World} {g : Nat} {l : List Nat} (h : SchedW w wr g l) (n : Nat) : SchedW w (wr.drewN n) g l := ⟨h.1.drewN n, h.2.1, h.2.2.drewN n⟩
theorem SchedW.put {w wr : World} {g : Nat} {l : List Nat} (h : SchedW w wr g l) {k : Nat} (hk : l.length = k) (h64 : k < 64) (x : Nat) : SchedW w (wr.setCell ⟨g, k, none⟩ (u32v x)) g (l ++ [x]) := by
  refine ⟨h.1.setCell (fun hp => absurd hp (by have := h.2.1; simp; omega)) _, h.2.1, ?_⟩
  have := h.2.2.set_ k (u32v x)
  subst hk
  refine (congrArg (Blk _ g 122) ?_).mp this
  have e : 64 - l.length = (64 - (l ++ [x]).length) + 1 := by simp; omega
  rw [e, List.replicate_succ]
  simp

theorem word_sums (x0 x1 x2 x3 : Nat) (h0 : x0 < 256) (h1 : x1 < 256) (h2 : x2 < 256) (h3 : x3 < 256) :
    ∃ p0 p1 p2 s1 s2 : Nat, IntKind.u32.wrap ((x0 : Int) * 16777216) = (p0 : Int) ∧ IntKind.u32.wrap ((x1 : Int) * 65536) = (p1 : Int) ∧ IntKind.u32.wrap ((x2 : Int) * 256) = (p2 : Int) ∧
      IntKind.u32.wrap ((p0 : Int) + (p1 : Int)) = (s1 : Int) ∧ IntKind.u32.wrap ((s1 : Int) + (p2 : Int)) = (s2 : Int) ∧ IntKind.u32.wrap ((s2 : Int) + (x3 : Int)) = ((word4 x0 x1 x2 x3 : Nat) : Int) := by
  unfold word4
  refine ⟨x0 * 16777216, x1 * 65536, x2 * 256, x0 * 16777216 + x1 * 65536, x0 * 16777216 + x1 * 65536 + x2 * 256, ?_, ?_, ?_, ?_, ?_, ?_⟩
  all_goals
    refine (IntWalk.u32_in _ (by omega)).trans ?_
    omega
end Go.Proofs.YtkaghbpdnmigmaaDoor
