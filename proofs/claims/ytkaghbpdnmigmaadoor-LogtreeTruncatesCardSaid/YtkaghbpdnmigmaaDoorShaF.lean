/- The reference's Pad. -/
import Derived.Test.YtkaghbpdnmigmaaDoorGwC
import Derived.Test.YtkaghbpdnmigmaaDoorGwA
namespace Go.Proofs.YtkaghbpdnmigmaaDoor
open Go.RowKit

theorem BGrew.alloc {W w : World} {v : Value} {l : List UInt8} (h : BGrew W w v l) (o : Obj) : BGrew W (w.alloc o) v l := by
  obtain ⟨hf, g, cap, rfl, hWg, hgw, hlc, hcm, hc, hz, hr⟩ := h
  have hb : (w.alloc o).heap[g]? = w.heap[g]? := Below.heap_alloc w o g hgw
  refine ⟨hf.alloc _, g, cap, rfl, hWg, by simp; omega, hlc, hcm, fun j hj => ?_, fun j hj => ?_, fun j u hu => ?_⟩
  · have := hc j hj
    simp only [World.cell?] at this ⊢
    rw [hb]
    exact this
  · have := hz j hj
    simp only [World.frozen?] at this ⊢
    rw [hb]
    exact this
  · have := hr j u hu
    simp only [World.cell?] at this ⊢
    rw [hb]
    exact this

/-- append of a literal's bytes. -/
theorem wpList_appB1 {ops : Array Oper} {rest : List Oper} {o : Oper} {a : Act} {w : World} {Q : Exit → Act → World → Prop} (hgd : o.guard = none) (s x : Operand)
    (ho : o.op = .call { callee := .builtin .append, args := #[s, x], argTypes := #[79, 79] }) {W : World} {v : Value} {l : List UInt8} (hB : BGrew W w v l) (hs : a.eval s = v)
    (xs : List UInt8) (cs : Array Value) (hcs : cs = (xs.map bvI).toArray) (g m : Nat) (hg : g = w.heap.size) (hm : m = xs.length) (hx : a.eval x = .slice (some ⟨g, 0, none⟩) m m)
    (hl : l.length + xs.length ≤ 140737488355328) (hne : xs ≠ [])
    (h : ∀ v' w', BGrew W w' v' (l ++ xs) → wpList Tryd.prog ops Q rest (a.put o.dst v') w') : wpList Tryd.prog ops Q (o :: rest) a (w.alloc (.cells cs 5)) := by
  subst hg hm hcs hs
  obtain ⟨v', w', hrun, h2⟩ := (hB.alloc (.cells (xs.map bvI).toArray 5)).app o.type ⟨w.heap.size, 0, none⟩ xs.length (fun j u hu => by
    rw [show (⟨w.heap.size, 0, none⟩ : Addr).add j = ⟨w.heap.size, j, none⟩ by unfold Addr.add; split <;> simp_all, (Blk.new w 5 (xs.map bvI).toArray).cell j]
    simpa using hu) hl hne
  refine wpList_plain hgd fun K hK => ?_
  unfold Oper.wp execOp
  simp only [ho, resolve, invoke, builtin, Sem.run_bind, Sem.run_pure, Result.andThen_ok, List.map_toArray, List.map_cons, List.map_nil, hx, hrun]
  exact hK _ _ (h v' w' h2)

def lenOf : Value → Nat
  | .slice _ n _ => n
  | _ => 0

def Padded (w : World) (l : List UInt8) (e : Ending) (w' : World) : Prop := ∃ v, e = .returned v ∧ BGrew w w' v l

theorem oct_bv (n : Nat) : bvI (oct n) = .int .u8 ((n % 256 : Nat) : Int) := by
  unfold bvI oct
  rw [UInt8.toNat_ofNat']

theorem one_arr {a b : Int} (h : a = b) : #[Value.int .u8 a] = (Value.int .u8 b :: List.map bvI []).toArray := by rw [h]; rfl

def padK (l : List UInt8) (k : Nat) : List UInt8 := l ++ 128 :: List.replicate k 0
theorem padK_length (l : List UInt8) (k : Nat) : (padK l k).length = l.length + 1 + k := by simp [padK]; omega
theorem padK_succ (l : List UInt8) (k : Nat) : padK l k ++ [0] = padK l (k + 1) := by
  simp only [padK, List.append_assoc, List.cons_append, List.append_cancel_left_eq, List.cons.injEq, true_and]
  exact (List.replicate_succ' (n := k) (a := (0 : UInt8))).symm

set_option maxRecDepth 100000 in
set_option maxHeartbeats 1000000 in
theorem Pad_any (s : ByteArray) (w : World) (hs : s.size ≤ 1099511627776) : Calls Tryd.prog 58 #[.string s] w (Padded w (padL (txL s))) := by
  obtain ⟨v1, w1, hcv, hB1⟩ := BGrew.conv w s hs
  have HB := Lib.hid hB1
  have HLL := Lib.hid (txL_length s)
  clear hB1
  have HPL : Hid (padL (txL s) = padK (txL s) ((119 - s.size % 64) % 64) ++ len8 s.size) := by
    simp only [Hid]
    unfold padL padK
    rw [HLL.out]
    simp
  generalize hP : padL (txL s) = PL at *
  clear hP
  generalize hT : txL s = T at *
  clear hT
  go_enter Tryd.func58, Tryd.ntmps58
  go_wp2_with (at_builtin; refine wpList_appB1 rfl _ _ rfl HB.out rfl [128] _ rfl _ 1 rfl rfl rfl ?c1 (by simp) ?_)
  case c1 => have := HLL.out; simp; omega
  intro v2 w2 hB2
  have H2 : Hid (BGrew w w2 v2 (padK T 0)) := hB2
  clear hB2 hcv HB
  obtain ⟨Z, hZ⟩ : ∃ Z, Z = (119 - s.size % 64) % 64 := ⟨_, rfl⟩
  rw [← hZ] at HPL
  have HZ := Lib.hid hZ
  have hZ64 : Z < 64 := by omega
  clear hZ
  go_wp2
  go_loopw [3] (fun v wr => ∃ k : Nat, k ≤ Z ∧ BGrew w wr v (padK T k)) (fun v _ => s.size + 1 + Z - lenOf v)
  case atStart => exact ⟨0, by omega, H2.out⟩
  case round =>
    obtain ⟨k, hk, hB⟩ := hrel
    have HG := Lib.hid hB
    obtain ⟨_, gg, cap, rfl, _⟩ := hB
    have hL : (padK T k).length = s.size + 1 + k := by rw [padK_length, HLL.out]
    obtain ⟨L, hLL⟩ : ∃ L, L = (padK T k).length := ⟨_, rfl⟩
    have HLk : Hid (L = s.size + 1 + k) := hLL.trans hL
    have HLe : Hid (L = (padK T k).length) := hLL
    rw [← hLL] at HG ⊢
    clear hL hLL H2
    by_cases hkZ : k < Z
    · have ht : (((L : Nat) : Int) % 64 != 56) = true := by
        have := HLk.out; have := HZ.out
        rw [bne_iff_ne]; omega
      go_wp2_with (at_builtin; refine wpList_appB1 rfl _ _ rfl HG.out rfl [0] _ rfl _ 1 rfl rfl rfl ?c2 (by simp) ?_)
      case c2 => have := HLe.out; have := HLk.out; simp; omega
      intro v3 w3 hB3
      rw [padK_succ] at hB3
      have H3 := Lib.hid hB3
      clear hB3
      go_wp2
      go_roundw
      case rel => exact ⟨k + 1, by omega, H3.out⟩
      case measure =>
        obtain ⟨_, g5, c5, rfl, _⟩ := H3.out
        have := HLk.out
        simp only [lenOf, padK_length, HLL.out]
        omega
    · have ht : (((L : Nat) : Int) % 64 != 56) = false := by
        have := HLk.out; have := HZ.out
        rw [bne_eq_false_iff_eq]; omega
      rw [show k = Z by omega] at HG HLe
      have HBL : Hid ((padK T Z).length ≤ 1099511627776 + 65) := by have := HLe.out; have := HLk.out; simp only [Hid]; omega
      have H4 : Hid (BGrew w wr (.slice (some ⟨gg, 0, none⟩) L cap) (padK T Z ++ (len8 s.size).take 0)) := by simpa [Hid] using HG.out
      clear HG HLe HLk hkZ hk
      have hn8 : (8 : Int) * (s.size : Int) ≤ 8796093022208 := by omega
      go_wp2
      go_loopw [3, 5] (fun v i wr => ∃ k : Nat, k ≤ 8 ∧ i = .int .i64 (7 - (k : Int)) ∧ BGrew w wr v (padK T Z ++ (len8 s.size).take k)) (fun _ i _ => (intOf i + 1).toNat)
      case atStart => exact ⟨0, by omega, rfl, H4.out⟩
      case round =>
        obtain ⟨k, hk, rfl, hB⟩ := hrel
        have HH := Lib.hid hB
        obtain ⟨_, gq, cq, rfl, _⟩ := hB
        clear H4
        have hc : k = 0 ∨ k = 1 ∨ k = 2 ∨ k = 3 ∨ k = 4 ∨ k = 5 ∨ k = 6 ∨ k = 7 ∨ k = 8 := by omega
        clear hk
        rcases hc with rfl | rfl | rfl | rfl | rfl | rfl | rfl | rfl | rfl
        · go_wp2_with (at_builtin; refine wpList_appB1 rfl _ _ rfl HH.out rfl [oct (8 * s.size / 72057594037927936)] _ ?d0 _ 1 rfl rfl rfl ?e0 (by simp) ?_)
          case d0 => rw [List.map_cons, oct_bv]; exact one_arr (by omega)
          case e0 => have := HBL.out; simp; omega
          intro v5 w5 hB5
          have H5 : Hid (BGrew w w5 v5 (padK T Z ++ (len8 s.size).take 1)) := by simpa [Hid, len8, List.append_assoc] using hB5
          clear hB5
          go_wp2
          go_roundw
          case rel => exact ⟨1, by omega, by go_num, H5.out⟩
          case measure => simp [intOf]
        · go_wp2_with (at_builtin; refine wpList_appB1 rfl _ _ rfl HH.out rfl [oct (8 * s.size / 281474976710656)] _ ?d1 _ 1 rfl rfl rfl ?e1 (by simp) ?_)
          case d1 => rw [List.map_cons, oct_bv]; exact one_arr (by omega)
          case e1 => have := HBL.out; simp; omega
          intro v5 w5 hB5
          have H5 : Hid (BGrew w w5 v5 (padK T Z ++ (len8 s.size).take 2)) := by simpa [Hid, len8, List.append_assoc] using hB5
          clear hB5
          go_wp2
          go_roundw
          case rel => exact ⟨2, by omega, by go_num, H5.out⟩
          case measure => simp [intOf]
        · go_wp2_with (at_builtin; refine wpList_appB1 rfl _ _ rfl HH.out rfl [oct (8 * s.size / 1099511627776)] _ ?d2 _ 1 rfl rfl rfl ?e2 (by simp) ?_)
          case d2 => rw [List.map_cons, oct_bv]; exact one_arr (by omega)
          case e2 => have := HBL.out; simp; omega
          intro v5 w5 hB5
          have H5 : Hid (BGrew w w5 v5 (padK T Z ++ (len8 s.size).take 3)) := by simpa [Hid, len8, List.append_assoc] using hB5
          clear hB5
          go_wp2
          go_roundw
          case rel => exact ⟨3, by omega, by go_num, H5.out⟩
          case measure => simp [intOf]
        · go_wp2_with (at_builtin; refine wpList_appB1 rfl _ _ rfl HH.out rfl [oct (8 * s.size / 4294967296)] _ ?d3 _ 1 rfl rfl rfl ?e3 (by simp) ?_)
          case d3 => rw [List.map_cons, oct_bv]; exact one_arr (by omega)
          case e3 => have := HBL.out; simp; omega
          intro v5 w5 hB5
          have H5 : Hid (BGrew w w5 v5 (padK T Z ++ (len8 s.size).take 4)) := by simpa [Hid, len8, List.append_assoc] using hB5
          clear hB5
          go_wp2
          go_roundw
          case rel => exact ⟨4, by omega, by go_num, H5.out⟩
          case measure => simp [intOf]
        · go_wp2_with (at_builtin; refine wpList_appB1 rfl _ _ rfl HH.out rfl [oct (8 * s.size / 16777216)] _ ?d4 _ 1 rfl rfl rfl ?e4 (by simp) ?_)
          case d4 => rw [List.map_cons, oct_bv]; exact one_arr (by omega)
          case e4 => have := HBL.out; simp; omega
          intro v5 w5 hB5
          have H5 : Hid (BGrew w w5 v5 (padK T Z ++ (len8 s.size).take 5)) := by simpa [Hid, len8, List.append_assoc] using hB5
          clear hB5
          go_wp2
          go_roundw
          case rel => exact ⟨5, by omega, by go_num, H5.out⟩
          case measure => simp [intOf]
        · go_wp2_with (at_builtin; refine wpList_appB1 rfl _ _ rfl HH.out rfl [oct (8 * s.size / 65536)] _ ?d5 _ 1 rfl rfl rfl ?e5 (by simp) ?_)
          case d5 => rw [List.map_cons, oct_bv]; exact one_arr (by omega)
          case e5 => have := HBL.out; simp; omega
          intro v5 w5 hB5
          have H5 : Hid (BGrew w w5 v5 (padK T Z ++ (len8 s.size).take 6)) := by simpa [Hid, len8, List.append_assoc] using hB5
          clear hB5
          go_wp2
          go_roundw
          case rel => exact ⟨6, by omega, by go_num, H5.out⟩
          case measure => simp [intOf]
        · go_wp2_with (at_builtin; refine wpList_appB1 rfl _ _ rfl HH.out rfl [oct (8 * s.size / 256)] _ ?d6 _ 1 rfl rfl rfl ?e6 (by simp) ?_)
          case d6 => rw [List.map_cons, oct_bv]; exact one_arr (by omega)
          case e6 => have := HBL.out; simp; omega
          intro v5 w5 hB5
          have H5 : Hid (BGrew w w5 v5 (padK T Z ++ (len8 s.size).take 7)) := by simpa [Hid, len8, List.append_assoc] using hB5
          clear hB5
          go_wp2
          go_roundw
          case rel => exact ⟨7, by omega, by go_num, H5.out⟩
          case measure => simp [intOf]
        · go_wp2_with (at_builtin; refine wpList_appB1 rfl _ _ rfl HH.out rfl [oct (8 * s.size)] _ ?d7 _ 1 rfl rfl rfl ?e7 (by simp) ?_)
          case d7 => rw [List.map_cons, oct_bv]; exact one_arr (by omega)
          case e7 => have := HBL.out; simp; omega
          intro v5 w5 hB5
          have H5 : Hid (BGrew w w5 v5 (padK T Z ++ (len8 s.size).take 8)) := by simpa [Hid, len8, List.append_assoc] using hB5
          clear hB5
          go_wp2
          go_roundw
          case rel => exact ⟨8, by omega, by go_num, H5.out⟩
          case measure => simp [intOf]
        · have H9 : Hid (BGrew w wr (.slice (some ⟨gq, 0, none⟩) (padK T Z ++ (len8 s.size).take 8).length cq) PL) := by
            simp only [Hid]
            rw [HPL.out]
            exact HH.out
          go_wp2
          go_ret
          exact ⟨_, rfl, H9.out⟩
end Go.Proofs.YtkaghbpdnmigmaaDoor
