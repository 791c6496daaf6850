/- BlocksClones: its two array parameters, opened. -/
import Derived.Test.YtejajafbopabmaaDoorBlkCl
namespace Go.Proofs.YtejajafbopabmaaDoor
open Go.RowKit Go.ChangeShapes Go.WideShapes Go.Deep

theorem open2 {P : Program} {H : Type} {enc : TypeId × Value → H} {w : World} {r : Reach} {b fuel : Nat} {t e : TypeId} {v : Value} {x : DataW H × List MemPlace}
    (ht : P.underlying t = some (.array 2 e)) (hc : P.cellsOf t = 2) (hce : P.cellsOf e = 1) (hval : Value.okWide P w r b t v)
    (h : DataW.trod enc P w 0 (fun _ => true) true fuel t v.cells.toList = some x) :
    ∃ c0 c1, v = .agg #[c0, c1] ∧ ∃ m y0 y1, DataW.trod enc P w 0 (fun _ => true) true m e [c0] = some y0 ∧ DataW.trod enc P w 0 (fun _ => true) true m e [c1] = some y1 := by
  unfold Value.okWide at hval
  rw [ht] at hval
  obtain ⟨⟨l⟩, rfl, hs, _⟩ := hval
  rw [hc] at hs
  obtain ⟨xs, m, _, _, _, hl, hi⟩ := DataW.trod_array ht h
  match l, hs with
  | [c0, c1], _ =>
    match xs, hl with
    | [y0, y1], _ =>
      have i0 := hi 0 (by omega)
      have i1 := hi 1 (by omega)
      rw [hce] at i0 i1
      exact ⟨c0, c1, rfl, m, y0, y1, by simpa [Value.cells] using i0, by simpa [Value.cells] using i1⟩

set_option maxRecDepth 100000 in
theorem open_u8x2 {H : Type} {enc : TypeId × Value → H} {w : World} {r : Reach} {b fuel : Nat} {v : Value} {x : DataW H × List MemPlace} (hval : Value.okWide Tryd.prog w r b 52 v)
    (h : DataW.trod enc Tryd.prog w 0 (fun _ => true) true fuel 52 v.cells.toList = some x) :
    ∃ p : Int × Int, v = .agg #[.int .u8 p.1, .int .u8 p.2] ∧ (0 ≤ p.1 ∧ p.1 < 256) ∧ (0 ≤ p.2 ∧ p.2 < 256) := by
  obtain ⟨c0, c1, rfl, m, y0, y1, h0, h1⟩ := open2 Tryd.underlying52 (by kernel_rfl) (by kernel_rfl) hval h
  obtain ⟨a0, e0, _, b0⟩ := DataW.trod_int Tryd.underlying5 h0
  obtain ⟨a1, e1, _, b1⟩ := DataW.trod_int Tryd.underlying5 h1
  simp only [List.cons.injEq, and_true] at e0 e1
  subst e0 e1
  have := bounds_u8 b0
  have := bounds_u8 b1
  exact ⟨(a0, a1), rfl, ⟨by omega, by omega⟩, ⟨by omega, by omega⟩⟩

theorem slice_form {H : Type} {enc : TypeId × Value → H} {w : World} {m : Nat} {c : Value} {x : DataW H × List MemPlace}
    (h : DataW.trod enc Tryd.prog w 0 (fun _ => true) true m 23 [c] = some x) : ∃ a len cap, c = .slice a len cap := by
  rcases open_slice Tryd.underlying23 h with ⟨hcs, _⟩ | ⟨ad, l', c', m, n, D, Pl, hcs, _⟩
  · simp only [List.cons.injEq, and_true] at hcs
    exact ⟨_, _, _, hcs⟩
  · simp only [List.cons.injEq, and_true] at hcs
    exact ⟨_, _, _, hcs⟩

structure Ops1 where
  a : Option Addr
  len : Nat
  cap : Nat
  l : List OpV
structure Ops1.good (o : Ops1) (w : World) : Prop where
  rd : Rd w (Old w) 2 o.a o.len (ocells o.l)
  ok : ∀ v ∈ o.l, v.ok
  le : o.len ≤ 9223372036854775807

set_option maxRecDepth 100000 in
theorem open_opsx2 {H : Type} {enc : TypeId × Value → H} {w : World} {r : Reach} {b fuel : Nat} {v : Value} {x : DataW H × List MemPlace} (hval : Value.okWide Tryd.prog w r b 53 v)
    (h : DataW.trod enc Tryd.prog w 0 (fun _ => true) true fuel 53 v.cells.toList = some x) :
    ∃ p : Ops1 × Ops1, v = .agg #[.slice p.1.a p.1.len p.1.cap, .slice p.2.a p.2.len p.2.cap] ∧ p.1.good w ∧ p.2.good w := by
  obtain ⟨c0, c1, rfl, m, y0, y1, h0, h1⟩ := open2 Tryd.underlying53 (by kernel_rfl) (by kernel_rfl) hval h
  obtain ⟨a0, n0, k0, rfl⟩ := slice_form h0
  obtain ⟨a1, n1, k1, rfl⟩ := slice_form h1
  obtain ⟨l0, r0, o0, p0, q0⟩ := openOps h0
  obtain ⟨l1, r1, o1, p1, q1⟩ := openOps h1
  exact ⟨(⟨a0, n0, k0, l0⟩, ⟨a1, n1, k1, l1⟩), rfl, ⟨r0, o0, Nat.le_trans p0 q0⟩, ⟨r1, o1, Nat.le_trans p1 q1⟩⟩

theorem BlocksClones_int (x : Int) (y : Int × Int) (p : Ops1 × Ops1) (w : World) (hx : 0 ≤ x ∧ x < 65536) (hy : (0 ≤ y.1 ∧ y.1 < 256) ∧ (0 ≤ y.2 ∧ y.2 < 256)) (h : p.1.good w ∧ p.2.good w) (tc : TabC w) (ta : TabA w) :
    Calls Tryd.prog 7 #[.int .u16 x, .agg #[.int .u8 y.1, .int .u8 y.2], .agg #[.slice p.1.a p.1.len p.1.cap, .slice p.2.a p.2.len p.2.cap]] w (TrueNew w) := by
  obtain ⟨y1, y2⟩ := y
  obtain ⟨⟨h1, h2⟩, h3, h4⟩ := hy
  simp only at h1 h2 h3 h4
  obtain ⟨a, rfl⟩ := Int.eq_ofNat_of_zero_le hx.1
  obtain ⟨b, rfl⟩ := Int.eq_ofNat_of_zero_le h1
  obtain ⟨c, rfl⟩ := Int.eq_ofNat_of_zero_le h3
  exact BlocksClones_any a b c _ _ _ _ _ _ _ _ w _ _ (by omega) (by omega) (by omega) h.1.rd h.1.ok h.1.le h.2.rd h.2.ok h.2.le tc ta (TabAt.size2 tc)
end Go.Proofs.YtejajafbopabmaaDoor
