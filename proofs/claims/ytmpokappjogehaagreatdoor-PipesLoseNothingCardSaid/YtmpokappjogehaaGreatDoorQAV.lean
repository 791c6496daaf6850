/- Steps of the proof of LawPipesLoseNothing: contracts of the functions that the law reaches, for every world that holds what each of them asks. -/
import Derived.Test.YtmpokappjogehaaGreatDoorQAU
import Derived.Lib.Bytealg
import Derived.Shelf.Spec.SlicesInsert
import Derived.Shelf.Spec.SlicesInsertGrow
import Derived.Test.YtmpokappjogehaaGreatDoorQAH
set_option linter.unusedVariables false
set_option linter.unusedSimpArgs false
namespace Go.Proofs.YtmpokappjogehaaGreatDoor
namespace Ev
open Go Go.RowKit
section
variable {ρ : Nat → Value} {σ : Sg} {own : Ow} {w w' : World} {m m' : Mem XO}
theorem kView_ok : CallOk (TX ρ) Tryz.prog ρ kView := by
  intro f args m v m' h
  unfold kView at h
  replace h := bif_some h
  rcases h with ⟨hf, h⟩ | ⟨_, h⟩
  · obtain rfl := Nat.eq_of_beq_eq_true hf
    split at h
    · split at h
      · rename_i hn
        replace h := bif_some h
        rcases h with ⟨hb, h⟩ | ⟨_, h⟩
        · injection h with h; injection h with h1 h2; subst h1 h2
          exact k_check hn hb
        · cases h
      · cases h
    · cases h
  replace h := bif_some h
  rcases h with ⟨hf, h⟩ | ⟨_, h⟩
  · obtain rfl := Nat.eq_of_beq_eq_true hf
    split at h
    · replace h := bif_some h
      rcases h with ⟨hb, h⟩ | ⟨_, h⟩
      · injection h with h; injection h with h1 h2; subst h1 h2
        exact k_valid (Nat.le_of_ble_eq_true hb)
      · cases h
    · cases h
  replace h := bif_some h
  rcases h with ⟨hf, h⟩ | ⟨_, h⟩
  · obtain rfl := Nat.eq_of_beq_eq_true hf
    split at h
    · replace h := bif_some h
      rcases h with ⟨_, h⟩ | ⟨hb, h⟩
      · cases h
      · simp only [Bool.not_eq_false'] at hb
        split at h
        · rename_i hv ho
          injection h with h; injection h with h1 h2; subst h1 h2
          exact k_ords (Nat.le_of_ble_eq_true hb) hv ho
        · cases h
    · cases h
  replace h := bif_some h
  rcases h with ⟨hf, h⟩ | ⟨_, h⟩
  · obtain rfl := Nat.eq_of_beq_eq_true hf
    split at h
    · split at h
      · rename_i hg hn
        replace h := bif_some h
        rcases h with ⟨hb, h⟩ | ⟨_, h⟩
        · simp only [Bool.and_eq_true, Nat.ble_eq] at hb
          split at h
          · rename_i hq
            injection h with h; injection h with h1 h2; subst h1 h2
            exact k_get hg hn hb.1 hb.2 (by rw [hq])
          · rename_i hq
            injection h with h; injection h with h1 h2; subst h1 h2
            exact k_get hg hn hb.1 hb.2 (by rw [hq])
        · cases h
      · cases h
    · cases h
  replace h := bif_some h
  rcases h with ⟨hf, h⟩ | ⟨_, h⟩
  · obtain rfl := Nat.eq_of_beq_eq_true hf
    split at h
    · split at h
      · rename_i hg hn
        replace h := bif_some h
        rcases h with ⟨hb, h⟩ | ⟨_, h⟩
        · simp only [Bool.and_eq_true, Nat.ble_eq] at hb
          injection h with h; injection h with h1 h2; subst h1 h2
          exact k_call hg hn hb.1 hb.2
        · cases h
      · cases h
    · cases h
  replace h := bif_some h
  rcases h with ⟨hf, h⟩ | ⟨_, h⟩
  · obtain rfl := Nat.eq_of_beq_eq_true hf
    split at h
    · split at h
      · rename_i hg
        injection h with h; injection h with h1 h2; subst h1 h2
        exact k_mark hg
      · rename_i hg
        injection h with h; injection h with h1 h2; subst h1 h2
        exact k_mark2 hg
      · cases h
    · cases h
  replace h := bif_some h
  rcases h with ⟨hf, h⟩ | ⟨_, h⟩
  · obtain rfl := Nat.eq_of_beq_eq_true hf
    split at h
    · injection h with h; injection h with h1 h2; subst h1 h2
      exact k_snew
    · cases h
  replace h := bif_some h
  rcases h with ⟨hf, h⟩ | ⟨_, h⟩
  · obtain rfl := Nat.eq_of_beq_eq_true hf
    split at h
    · split at h
      · rename_i hg
        injection h with h; injection h with h1 h2; subst h1 h2
        exact k_vnew hg
      · cases h
    · cases h
  cases h
/-- Known functions one after the other. -/
theorem callOk_or {T : Itp XO} {P : Program} {k1 k2 : Caller XO} (h1 : CallOk T P ρ k1) (h2 : CallOk T P ρ k2) : CallOk T P ρ (orK k1 k2) := by
  intro f args m v m' h
  unfold orK at h
  split at h
  · rename_i r hr
    injection h with h
    subst h
    exact h1 f args m v m' hr
  · exact h2 f args m v m' h
end
end Ev
end Go.Proofs.YtmpokappjogehaaGreatDoor

namespace Go.Proofs.YtmpokappjogehaaGreatDoor
namespace Ev
open Go Go.RowKit
theorem byte_eq (n c : Nat) (hc : c < 256) : (UInt8.ofNat n == UInt8.ofNat c) = Nat.beq (n % 256) c := by
  rw [Bool.eq_iff_iff]
  constructor
  · intro h
    have h1 := congrArg UInt8.toNat (eq_of_beq h)
    simp only [UInt8.toNat_ofNat'] at h1
    have : n % 256 = c := by omega
    rw [this]
    exact Nat.beq_refl c
  · intro h
    have h1 := Nat.eq_of_beq_eq_true h
    have : UInt8.ofNat n = UInt8.ofNat c := by
      apply UInt8.toNat_inj.1
      simp only [UInt8.toNat_ofNat']
      omega
    simp [this]
theorem countE_eq (c : Nat) (hc : c < 256) : ∀ k n, countE k n c = (bytesN k n).count (UInt8.ofNat c)
  | 0, n => rfl
  | k + 1, n => by
    simp only [countE, bytesN, List.count_append, List.count_cons, List.count_nil, byte_eq n c hc, countE_eq c hc k]
    cases Nat.beq (n % 256) c <;> simp
theorem indexE_eq (s : Str) (c : Nat) (hc : c < 256) : ∀ k i, i + k = s.len → indexE s c k i = if Lib.indexByte (s.l.drop i) (UInt8.ofNat c) = -1 then -1 else Lib.indexByte (s.l.drop i) (UInt8.ofNat c) + i
  | 0, i, h => by
    rw [List.drop_of_length_le (by rw [Str.l_length]; omega)]
    rfl
  | k + 1, i, h => by
    have h1 : i < s.l.length := by rw [Str.l_length]; omega
    have h2 : s.l.drop i = UInt8.ofNat (s.at i) :: s.l.drop (i + 1) := by
      rw [List.drop_eq_getElem_cons h1]
      congr 1
      have h3 := Str.at_l s i (by omega)
      rw [List.getElem?_eq_getElem h1] at h3
      injection h3
    have hge := Lib.indexByte_ge (s.l.drop (i + 1)) (UInt8.ofNat c)
    rw [h2]
    simp only [indexE, Lib.indexByte, byte_eq _ c hc, Nat.mod_eq_of_lt (Str.at_lt s i)]
    cases Nat.beq (s.at i) c with
    | true => simp
    | false =>
      simp only [cond_false, Bool.false_eq_true, if_false, indexE_eq s c hc k (i + 1) (by omega), beq_iff_eq]
      split
      · simp
      · rw [if_neg (by omega)]
        omega
section
variable {ρ : Nat → Value}
theorem bAll_ok : BareOk Tryz.prog ρ bAll := by
  intro f args v h σ vs w hc
  unfold bAll at h
  replace h := bif_some h
  rcases h with ⟨hf, h⟩ | ⟨_, h⟩
  · obtain rfl := Nat.eq_of_beq_eq_true hf
    split at h
    · rename_i s c
      replace h := bif_some h
      rcases h with ⟨hb, h⟩ | ⟨_, h⟩
      · injection h with h
        subst h
        simp only [EV.concs, EV.conc, Option.some.injEq] at hc
        subst hc
        have hb' : c < 256 := by simpa using hb
        refine ⟨_, rfl, ?_⟩
        rw [run_callFunc_extern Tryz.func344 (by kernel_rfl) (by kernel_rfl) (by kernel_rfl) (e := Extern.BytealgCount.count) (by kernel_rfl)]
        have e1 : (Int.ofNat c).toNat.toUInt8 = UInt8.ofNat c := rfl
        simp only [Lib.run_countString, Result.andThen_ok, e1, Str.ba_l, Lib.countByte, countE_eq c hb']
        rfl
      · cases h
    · cases h
  replace h := bif_some h
  rcases h with ⟨hf, h⟩ | ⟨_, h⟩
  · obtain rfl := Nat.eq_of_beq_eq_true hf
    split at h
    · rename_i s c
      replace h := bif_some h
      rcases h with ⟨hb, h⟩ | ⟨_, h⟩
      · injection h with h
        subst h
        simp only [EV.concs, EV.conc, Option.some.injEq] at hc
        subst hc
        have hb' : c < 256 := by simpa using hb
        refine ⟨_, rfl, ?_⟩
        rw [run_callFunc_extern Tryz.func359 (by kernel_rfl) (by kernel_rfl) (by kernel_rfl) (e := Extern.BytealgIndexByte.indexByte) (by kernel_rfl)]
        have e1 : (Int.ofNat c).toNat.toUInt8 = UInt8.ofNat c := rfl
        have e2 := indexE_eq s c hb' s.len 0 (by omega)
        rw [List.drop_zero] at e2
        have e3 : indexE s c s.len 0 = Lib.indexByte s.l (UInt8.ofNat c) := by
          rw [e2]
          split
          · rename_i h5; rw [h5]
          · simp
        simp only [Lib.run_indexByteString, Result.andThen_ok, e1, Str.ba_l, e3]
      · cases h
    · cases h
  cases h
end
end Ev
end Go.Proofs.YtmpokappjogehaaGreatDoor

namespace Go.Proofs
open Go.Shelf
def Tryz.lays22_ren : Go.Shelf.Ren := ⟨fun | 22 => 242 | 29 => 297 | 30 => 298 | 36 => 318 | 17 => 330 | n => n, fun | 24 => 52 | 9 => 9 | 3 => 3 | 4 => 4 | 0 => 0 | n => n, fun | n => n⟩
theorem Tryz.lays22 : Go.Proofs.Lays2.n22 Tryz.prog Tryz.lays22_ren := {
  mixed := by kernel_rfl
  f17 := Tryz.func330.trans (congrArg some (by kernel_rfl))
  f22 := Tryz.func242.trans (congrArg some (by kernel_rfl))
  f29 := Tryz.func297.trans (congrArg some (by kernel_rfl))
  f30 := Tryz.func298.trans (congrArg some (by kernel_rfl))
  f36 := Tryz.func318.trans (congrArg some (by kernel_rfl))
  t0 := Tryz.underlying0
  a0 := Tryz.isAgg0
  z0 := Tryz.sizeOf0
  v0 := Tryz.zeroValue0
  t3 := Tryz.underlying3
  a3 := Tryz.isAgg3
  z3 := Tryz.sizeOf3
  v3 := Tryz.zeroValue3
  t4 := Tryz.underlying4
  a4 := Tryz.isAgg4
  z4 := Tryz.sizeOf4
  v4 := Tryz.zeroValue4
  t9 := Tryz.underlying9
  a9 := Tryz.isAgg9
  z9 := Tryz.sizeOf9
  v9 := Tryz.zeroValue9
  t24 := Tryz.underlying52
  a24 := Tryz.isAgg52
  z24 := Tryz.sizeOf52
  v24 := Tryz.zeroValue52
  i9 := by kernel_rfl }
end Go.Proofs

namespace Go.Proofs.YtmpokappjogehaaGreatDoor
namespace Ev
open Go Go.RowKit
theorem setCells_blk : ∀ (vs : List Value) (o : Nat) (w : World) (g : Nat) (t : TypeId) (cs : Array Value), Blk w g t cs → o + vs.length ≤ cs.size →
    ∃ cs', Blk (w.setCells g o vs) g t cs' ∧ cs'.size = cs.size ∧ ∀ j, cs'[j]? = if o ≤ j ∧ j < o + vs.length then vs[j - o]? else cs[j]?
  | [], o, w, g, t, cs, h, _ => ⟨cs, h, rfl, fun j => by rw [if_neg (by simp only [List.length_nil]; omega)]⟩
  | v :: r, o, w, g, t, cs, h, hl => by
    rw [List.length_cons] at hl
    obtain ⟨cs', h1, h2, h3⟩ := setCells_blk r (o + 1) (w.setCell ⟨g, o, none⟩ v) g t _ (h.set_ o v) (by simp only [Array.size_setIfInBounds]; omega)
    refine ⟨cs', h1, by rw [h2, Array.size_setIfInBounds], fun j => ?_⟩
    rw [h3 j, List.length_cons]
    by_cases hj : o + 1 ≤ j ∧ j < o + 1 + r.length
    · rw [if_pos hj, if_pos (by omega), show j - o = (j - (o + 1)) + 1 by omega, List.getElem?_cons_succ]
    · rw [if_neg hj]
      by_cases hjo : j = o
      · subst hjo
        rw [if_pos (by omega), Nat.sub_self, List.getElem?_cons_zero, Array.getElem?_setIfInBounds_self_of_lt (by omega)]
      · rw [if_neg (by omega), Array.getElem?_setIfInBounds_ne (fun e => hjo e.symm)]
theorem ins_get {α : Type} {c u : List α} {i n k j : Nat} (hc : c.length = n) (hu : u.length = k) (hi : i < n) : (c.take i ++ (u ++ c.drop i))[j]? = if i ≤ j ∧ j < i + k then u[j - i]? else if i + k ≤ j then (c.drop i)[j - (i + k)]? else c[j]? := by
  have hl : (c.take i).length = i := by rw [List.length_take]; omega
  by_cases h1 : i ≤ j
  · rw [List.getElem?_append_right (by omega), hl]
    by_cases h2 : j < i + k
    · rw [if_pos ⟨h1, h2⟩, List.getElem?_append_left (by omega)]
    · rw [if_neg (by omega), if_pos (by omega), List.getElem?_append_right (by omega), hu]
      congr 1
      omega
  · rw [if_neg (by omega), if_neg (by omega), List.getElem?_append_left (by omega), List.getElem?_take, if_pos (by omega)]
section
variable {ρ : Nat → Value} {σ : Sg} {own : Ow} {w w' : World} {m m' : Mem XO}
theorem cell_row {b j : Nat} {t : TypeId} {full : Array Value} {v : Value} (h : w.heap[b]? = some (.cells full t (0, 0))) (hj : full[j]? = some v) : w.cell? ⟨b, j, none⟩ = some v := by
  simp [World.cell?, h, hj]
theorem frozen_row {b j : Nat} {t : TypeId} {full : Array Value} (h : w.heap[b]? = some (.cells full t (0, 0))) : w.frozen? ⟨b, j, none⟩ = false := by
  simp [World.frozen?, h]
set_option maxHeartbeats 1000000 in
theorem k_ins {a b n i k : Nat} {cs vs l u : List EV} (hga : m.h.get a = some (.row 9 1 cs)) (hgb : m.h.get b = some (.row 9 1 vs)) (hi : i < n) (hk : 0 < k) (hab : a ≠ b) (hnk : n + k ≤ 1000000)
    (hl : takeN n cs = some l) (hu : takeN k vs = some u) (h1l : okCells l = true) (h1u : okCells u = true) :
    KOk ρ 242 [.slc a 0 n 1, .int .i64 (.ofNat i), .slc b 0 k 1] m (.slc m.nx 0 (n + k) 1) ((m.upd a .dead).new (.row 9 1 (l.take i ++ (u ++ l.drop i)))) := by
  refine ⟨enters_b (by kernel_rfl), fun σ own w us hc hH => ?_⟩
  obtain ⟨ba, ca, va, fa, s1, o1, c1, w1, p1, z1, q1⟩ := hH.obj a _ hga
  obtain ⟨bb, cb, vb, fb, s2, o2, c2, w2, p2, z2, q2⟩ := hH.obj b _ hgb
  obtain ⟨l1, l2⟩ := takeN_concs c1 hl
  obtain ⟨u1, u2⟩ := takeN_concs c2 hu
  obtain ⟨x1, r1, rfl, e1, hc⟩ := concs_cons hc
  obtain ⟨x2, r2, rfl, e2, hc⟩ := concs_cons hc
  obtain ⟨x3, rfl, e3⟩ := concs_one hc
  obtain ⟨ba', ca', t1, t2, rfl⟩ := slc_shape e1
  obtain ⟨bb', cb', t3, t4, rfl⟩ := slc_shape e3
  rw [s1] at t1; rw [s2] at t3
  injection t1 with t1; injection t1 with t1 t1'; subst t1 t1'
  injection t3 with t3; injection t3 with t3 t3'; subst t3 t3'
  simp only [EV.conc, Option.some.injEq] at e2
  subst e2
  have hbb : bb ≠ ba := fun e => by rw [e, o1] at o2; injection o2 with o2; exact hab o2
  have lv : (va.take n).length = n := by rw [List.length_take]; omega
  have uv : (vb.take k).length = k := by rw [List.length_take]; omega
  have gv : ∀ j v, (va.take n)[j]? = some v → fa[j]? = some v := fun j v hj => by
    rw [List.getElem?_take] at hj
    split at hj
    · exact p1 j v hj
    · cases hj
  have gu : ∀ j v, (vb.take k)[j]? = some v → fb[j]? = some v := fun j v hj => by
    rw [List.getElem?_take] at hj
    split at hj
    · exact p2 j v hj
    · cases hj
  have h1v := ones_of l1 h1l
  have h1w := ones_of u1 h1u
  have hcon : EV.concs σ ρ (l.take i ++ (u ++ l.drop i)) = some ((va.take n).take i ++ (vb.take k ++ (va.take n).drop i)) := by
    have hil : i ≤ l.length := by have := concs_length l1; omega
    have ht : EV.concs σ ρ (l.take i) = some ((va.take n).take i) := by
      have h2 := concs_app2 (σ := σ) (ρ := ρ) (l.take i) (l.drop i)
      rw [List.take_append_drop, l1, concs_drop i l1] at h2
      cases h3 : EV.concs σ ρ (l.take i) with
      | none => rw [h3] at h2; cases h2
      | some x =>
        rw [h3] at h2
        simp only [Option.some.injEq] at h2
        have h4 : x.length = i := by rw [concs_length h3, List.length_take]; omega
        have h5 := congrArg (List.take i) h2
        have h6 : i ≤ x.length := by omega
        have h7 : x.take i = x := List.take_of_length_le (by omega)
        rw [List.take_append_of_le_length h6, h7] at h5
        rw [h5]
    exact concs_append ht (concs_append u1 (concs_drop i l1))
  have hbl : ((va.take n).drop i).length = n - i := by rw [List.length_drop, lv]
  simp only [Nat.zero_mul, Nat.sub_zero]
  generalize va.take n = C at *
  generalize vb.take k = U at *
  have hfas : fa.size = ca := by rw [z1, Nat.mul_one]
  rcases Nat.lt_or_ge ca (n + k) with hroom | hroom
  · refine (Any2.slices_Insert_string_grow Tryz.lays22 ba 0 n ca i bb 0 k cb C U w hi hk (by omega) hroom (by omega) lv uv (fun j v hj => by rw [Nat.zero_add]; exact cell_row w1 (gv j v hj)) (fun j v hj => by rw [Nat.zero_add]; exact cell_row w2 (gu j v hj)) h1v h1w).mono ?_
    rintro e w' ⟨rfl, hw'⟩
    have hG1 := grown_ge w (n + k) ca 9
    have hG2 := gcap w (n + k) ca 9 (by omega)
    have hw2 : w' = ((w.alloc (.cells ((C.take i).toArray ++ Builtin.zeroCells (Value.string ⟨#[]⟩).cells (n + k - i) ++ Builtin.zeroCells (Value.string ⟨#[]⟩).cells (grownCap w (n + k) ca 9 - (n + k))) 9)).drew.setCells w.heap.size i U).drew.setCells w.heap.size (i + k) (C.drop i) := hw'
    clear hw'
    have hv : (Ending.returned (.slice (some ⟨w.heap.size, 0, none⟩) (n + k) (grownCap w (n + k) ca 9))) = Ending.returned (.slice (some ⟨w.heap.size, 0, none⟩) (n + k) (grownCap w (n + k) ca 9)) := rfl
    show Post (TX ρ) ρ σ own m.nx w _ _ (Ending.returned (.slice (some ⟨w.heap.size, 0, none⟩) (n + k) (grownCap w (n + k) ca 9))) w'
    clear hv
    generalize grownCap w (n + k) ca 9 = G at *
    have hz : ∀ q, (Builtin.zeroCells (Value.string ⟨#[]⟩).cells q).size = q := fun q => by rw [size_zeroCells]; exact Nat.mul_one q
    generalize hR : (C.take i).toArray ++ Builtin.zeroCells (Value.string ⟨#[]⟩).cells (n + k - i) ++ Builtin.zeroCells (Value.string ⟨#[]⟩).cells (G - (n + k)) = ROW at *
    have hRs : ROW.size = G := by
      rw [← hR, Array.size_append, Array.size_append, hz, hz, List.size_toArray, List.length_take, lv]
      omega
    have hRp : ∀ j, j < i → ROW[j]? = C[j]? := fun j hj => by
      rw [← hR, Array.getElem?_append_left (by rw [Array.size_append, List.size_toArray, List.length_take]; omega), Array.getElem?_append_left (by rw [List.size_toArray, List.length_take]; omega), List.getElem?_toArray, List.getElem?_take, if_pos hj]
    have hb0 : Blk (w.alloc (.cells ROW 9)).drew w.heap.size 9 ROW := alloc_at w _
    obtain ⟨f1, g1, g2, g3⟩ := setCells_blk U i (w.alloc (.cells ROW 9)).drew w.heap.size _ ROW hb0 (by omega)
    have g1' : Blk ((w.alloc (.cells ROW 9)).drew.setCells w.heap.size i U).drew w.heap.size 9 f1 := g1
    obtain ⟨f2, k1, k2, k3⟩ := setCells_blk (C.drop i) (i + k) _ w.heap.size _ f1 g1' (by omega)
    rw [← hw2] at k1
    have hfr : Fr Nothing w w' := by
      rw [hw2]
      exact Fr.setCells (T := Nothing) (fun h => absurd h (Nat.lt_irrefl _)) _ _ _ (Fr.setCells (T := Nothing) (fun h => absurd h (Nat.lt_irrefl _)) _ _ _ (alloc_fr w _).drew).drew
    refine ⟨_, _, _, rfl, slc_new _ _ _ _ _ _ hG1, (hH.kill a).new G hfr k1.lt ?_⟩
    refine ⟨w.heap.size, G, _, f2, Sg.add_same .., Ow.add_same .., EV.concs_mono (Sg.add_le (hH.dom _ (Nat.le_refl _))) ρ _ _ hcon, k1, fun j v hj => ?_, by rw [k2, g2, hRs, Nat.mul_one], hG2⟩
    rw [ins_get lv uv hi] at hj
    rw [k3 j, hbl]
    by_cases hj1 : i ≤ j ∧ j < i + k
    · rw [if_pos hj1] at hj
      rw [if_neg (by omega), g3 j, uv, if_pos hj1]
      exact hj
    · rw [if_neg hj1] at hj
      by_cases hj2 : i + k ≤ j
      · rw [if_pos hj2] at hj
        have := (List.getElem?_eq_some_iff.1 hj).1
        rw [if_pos (by omega)]
        exact hj
      · rw [if_neg hj2] at hj
        rw [if_neg (by omega), g3 j, uv, if_neg hj1, hRp j (by omega)]
        exact hj
  · refine (Any2.slices_Insert_string_shift Tryz.lays22 ba 0 n ca i bb 0 k cb C U w hi hk hroom q1 hbb lv uv (fun j v hj => by rw [Nat.zero_add]; exact cell_row w1 (gv j v hj)) (fun j hj => ?_) (fun j hj => frozen_row w1) (fun j v hj => by rw [Nat.zero_add]; exact cell_row w2 (gu j v hj)) h1v h1w
      9 9 fb.size fa.size (by simp [World.shape?, w2]) (by simp [World.shape?, w1]) (by omega) (frozen_row w2) (frozen_row w2)).mono ?_
    · rw [Nat.zero_add, cell_row w1 (Array.getElem?_eq_getElem (by omega))]; rfl
    · rintro e w' ⟨rfl, hw'⟩
      simp only [Nat.zero_add] at hw'
      have hb0 : Blk w.drew ba 9 fa := w1
      obtain ⟨f1, g1, g2, g3⟩ := setCells_blk (C.drop i) (i + k) w.drew ba _ fa hb0 (by omega)
      obtain ⟨f2, k1, k2, k3⟩ := setCells_blk U i _ ba _ f1 g1 (by omega)
      rw [← hw'] at k1
      have hfr : Fr (fun k => k = ba) w w' := by
        rw [hw']
        exact Fr.setCells (T := fun k => k = ba) (fun _ => rfl) _ _ _ (Fr.setCells (T := fun k => k = ba) (fun _ => rfl) _ _ _ (Fr.refl _ _).drew)
      refine ⟨_, _, _, rfl, slc_new _ _ _ _ _ _ hroom, hH.pass o1 hfr ?_⟩
      refine ⟨ba, ca, _, f2, Sg.add_same .., Ow.add_same .., EV.concs_mono (Sg.add_le (hH.dom _ (Nat.le_refl _))) ρ _ _ hcon, k1, fun j v hj => ?_, by rw [k2, g2, z1], q1⟩
      rw [ins_get lv uv hi] at hj
      rw [k3 j, uv]
      by_cases hj1 : i ≤ j ∧ j < i + k
      · rw [if_pos hj1] at hj ⊢; exact hj
      · rw [if_neg hj1] at hj ⊢
        rw [g3 j, hbl]
        by_cases hj2 : i + k ≤ j
        · rw [if_pos hj2] at hj
          have := (List.getElem?_eq_some_iff.1 hj).1
          rw [if_pos (by omega)]
          exact hj
        · rw [if_neg hj2] at hj
          rw [if_neg (by omega)]
          exact gv j v hj
theorem kIns_ok : CallOk (TX ρ) Tryz.prog ρ kIns := by
  intro f args m v m' h
  unfold kIns at h
  replace h := bif_some h
  rcases h with ⟨hf, h⟩ | ⟨_, h⟩
  · obtain rfl := Nat.eq_of_beq_eq_true hf
    split at h
    · split at h
      · rename_i ta cs tb vs hga hgb
        replace h := bif_some h
        rcases h with ⟨hb, h⟩ | ⟨_, h⟩
        · simp only [Bool.and_eq_true, Nat.blt_eq, Nat.ble_eq, Bool.not_eq_true'] at hb
          obtain ⟨⟨⟨⟨⟨b1, b2⟩, b3⟩, b4⟩, b5⟩, b6⟩ := hb
          obtain rfl := Nat.eq_of_beq_eq_true b1
          obtain rfl := Nat.eq_of_beq_eq_true b2
          split at h
          · rename_i l u hl hu
            replace h := bif_some h
            rcases h with ⟨hb, h⟩ | ⟨_, h⟩
            · simp only [Bool.and_eq_true] at hb
              injection h with h; injection h with h1 h2; subst h1 h2
              exact k_ins hga hgb b3 b4 (fun e => by subst e; rw [Nat.beq_refl] at b5; cases b5) b6 hl hu hb.1 hb.2
            · cases h
          · cases h
        · cases h
      · cases h
    · cases h
  cases h
end
end Ev
end Go.Proofs.YtmpokappjogehaaGreatDoor

namespace Go.Proofs.YtmpokappjogehaaGreatDoor
namespace Ev
open Go Go.RowKit

def Out.to : Out → Exit
  | .normal => .normal
  | .ret => .ret
  | .exit id => .exit id
section
variable {X : Type} {T : Itp X} {P : Program} {ρ : Nat → Value} {σ σ' σ'' : Sg} {own own' own'' : Ow} {w w' w'' : World} {m m' : Mem X} {a : Act} {fr : Tr EV} {n : Nat} {E : Env X}
abbrev Runner (X : Type) := Code → St X → Option (Out × St X)
def RunOk (T : Itp X) (P : Program) (ρ : Nat → Value) (run : Runner X) : Prop := ∀ c s o s', run c s = some (o, s') → ∀ σ own a w, SRel T ρ σ own s a w → ∀ Q : Exit → Act → World → Prop,
  (∀ σ' own' a' w', SRel T ρ σ' own' s' a' w' → Stp σ own s.m.nx w σ' own' s'.m.nx w' → Q o.to a' w') → c.wp P Q a w
structure EnvOk (T : Itp X) (ρ : Nat → Value) (E : Env X) : Prop where
  K : CallOk T E.P ρ E.K
  B : BareOk E.P ρ E.B
  R : ∀ g l c m, E.R g l c m = none
  N : ∀ (f : Nat) (fn : Func), E.P.funcs[f]? = some fn → fn.body.isSome = true → (fn.name == "runtime.NumGoroutine") = false
def DrawOk (T : Itp X) (P : Program) (ρ : Nat → Value) (dr : Caller X → List Oper → St X → Option (St X)) : Prop := ∀ call, CallOk T P ρ call → ∀ (ops : Array Oper) s s', dr call ops.toList s = some s' → ∀ id σ own a w, SRel T ρ σ own s a w → ∀ Q : Exit → Act → World → Prop,
  (∀ σ' own' a' w', SRel T ρ σ' own' s' a' w' → Stp σ own s.m.nx w σ' own' s'.m.nx w' → Q .normal a' w') → (Code.region id ops true).wp P Q a w

/-! ### Calls -/
theorem argsTr_get : ∀ (l : List EV) (k : Nat) (t : Tr EV) (i : Nat) (e : EV), (argsTr l k t).get i = some e → (k ≤ i ∧ l[i - k]? = some e) ∨ t.get i = some e
  | [], _, _, _, _, h => .inr h
  | v :: l, k, t, i, e, h => by
    rcases argsTr_get l (k + 1) (t.put k v) i e h with ⟨h1, h2⟩ | h1
    · refine .inl ⟨by omega, ?_⟩
      rw [show i - k = (i - (k + 1)) + 1 by omega]
      exact h2
    · rcases Tr.get_put h1 with ⟨rfl, rfl⟩ | ⟨_, h2⟩
      · exact .inl ⟨Nat.le_refl _, by simp⟩
      · exact .inr h2
theorem start_frame {args : List EV} {vs : List Value} {k : Nat} (h : EV.concs σ ρ args = some vs) : FRel ρ σ (argsTr args 0 .nil) (max args.length k) { tmps := vs.toArray ++ Array.replicate (k - vs.toArray.size) undef, defers := [] } := by
  have hl := concs_length h
  refine ⟨by simp; omega, fun i e he hne => ?_⟩
  rcases argsTr_get args 0 .nil i e he with ⟨_, h2⟩ | h2
  · obtain ⟨v, h3, h4⟩ := concs_get h (i - 0) e h2
    refine ⟨v, h4, ?_⟩
    have hi : i < vs.length := (List.getElem?_eq_some_iff.1 h3).1
    show (vs.toArray ++ Array.replicate (k - vs.toArray.size) undef)[i]? = some v
    rw [Array.getElem?_append_left (by simpa using hi), List.getElem?_toArray]
    exact h3
  · simp [Tr.get] at h2
def resRun (a : Act) : ResultVar → Sem Value
  | .tmp t => pure (a.tmps.getD t undef)
  | .cell x t => do loadVar t (← asAddr (a.tmps.getD x undef))
theorem results_eq (fn : Func) (a : Act) : results fn a.tmps = (do let vs ← fn.results.mapM (resRun a); pure (if h : vs.size = 1 then vs[0] else .tuple vs) : Sem Value) := by
  unfold results
  congr 1
theorem res_sound {s : St X} {r : ResultVar} {e : EV} (h : resEv P s r = some e) (hF : FRel ρ σ s.fr s.n a) (hH : HRel T ρ σ own s.m w) : ∃ v, e.conc σ ρ = some v ∧ (resRun a r).run P w = .ok v w := by
  cases r with
  | tmp t =>
    simp only [resEv] at h
    have h' : s.fr.get t = some e ∧ e ≠ .any := by
      split at h
      · cases h
      · rename_i hne
        exact ⟨h, fun he => by subst he; exact hne h⟩
    obtain ⟨v, h1, h2⟩ := hF.get t e h'.1 h'.2
    refine ⟨v, h1, ?_⟩
    simp [resRun, Array.getD_eq_getD_getElem?, h2]
  | cell x t =>
    simp only [resEv] at h
    split at h
    · rename_i id off hx
      split at h
      · rename_i cs z hc hz
        obtain ⟨v, h1, h2⟩ := hF.get x _ hx (by simp)
        obtain ⟨b, c, hb, rfl⟩ := ptr_shape h1
        obtain ⟨b', c', vs, h3, h4, h5⟩ := cells_sound hc hH
        rw [hb] at h3
        injection h3 with h3
        injection h3 with h3 h3'
        subst h3
        obtain ⟨v, h6, h7⟩ := loadVar_sound hz (szOf_und hz) h h4 h5
        refine ⟨v, h6, ?_⟩
        simp only [resRun, Array.getD_eq_getD_getElem?, h2, Option.getD_some, asAddr, Sem.run_bind, Sem.run_pure, Result.andThen_ok]
        exact h7
      · cases h
    · cases h
theorem ress_sound {s : St X} (hF : FRel ρ σ s.fr s.n a) (hH : HRel T ρ σ own s.m w) : ∀ {l : List ResultVar} {es : List EV}, allO (l.map (resEv P s)) = some es →
    ∃ vs, EV.concs σ ρ es = some vs ∧ (l.mapM (resRun a)).run P w = .ok vs w
  | [], es, h => by simp only [List.map_nil, allO, Option.some.injEq] at h; subst h; exact ⟨[], rfl, rfl⟩
  | r :: l, es, h => by
    simp only [List.map_cons] at h
    cases h1 : resEv P s r with
    | none => rw [h1] at h; simp [allO] at h
    | some e =>
      rw [h1] at h
      simp only [allO] at h
      cases h2 : allO (l.map (resEv P s)) with
      | none => rw [h2] at h; cases h
      | some q =>
        rw [h2] at h
        injection h with h
        subst h
        obtain ⟨v, h3, h4⟩ := res_sound h1 hF hH
        obtain ⟨vs, h5, h6⟩ := ress_sound hF hH h2
        refine ⟨v :: vs, concs_mk h3 h5, ?_⟩
        rw [List.mapM_cons, Sem.run_bind, h4, Result.andThen_ok, Sem.run_bind, h6, Result.andThen_ok]
        rfl
theorem results_sound {s : St X} {fn : Func} {v : EV} (h : resultsEv P fn s = some v) (hF : FRel ρ σ s.fr s.n a) (hH : HRel T ρ σ own s.m w) : ∃ u, v.conc σ ρ = some u ∧ (results fn a.tmps).run P w = .ok u w := by
  unfold resultsEv at h
  cases h1 : allO (fn.results.toList.map (resEv P s)) with
  | none => rw [h1] at h; cases h
  | some es =>
    obtain ⟨vs, h2, h3⟩ := ress_sound hF hH h1
    have hrun : (results fn a.tmps).run P w = .ok (if hh : vs.toArray.size = 1 then vs.toArray[0] else .tuple vs.toArray) w := by
      rw [results_eq, Sem.run_bind, Array.mapM_eq_mapM_toList, Sem.run_map, h3, Result.andThen_ok, Result.andThen_ok]
      rfl
    rw [h1] at h
    have hl := concs_length h2
    match es, vs, h2, hl, hrun, h with
    | [e], [u], h2, _, hrun, h =>
      injection h with h
      subst h
      obtain ⟨v', h4, h5⟩ := concs_one h2
      injection h4 with h4
      subst h4
      exact ⟨u, h5, hrun⟩
    | [], [], h2, _, hrun, h =>
      injection h with h
      subst h
      exact ⟨.tuple #[], by simp only [EV.conc, h2], hrun⟩
    | e :: e' :: r, u :: u' :: r', h2, _, hrun, h =>
      injection h with h
      subst h
      refine ⟨.tuple (u :: u' :: r').toArray, by simp only [EV.conc, h2], ?_⟩
      rw [hrun, dif_neg (by simp)]
    | [e], [], _, hl, _, _ => simp at hl
    | [e], _ :: _ :: _, _, hl, _, _ => simp at hl
    | [], _ :: _, _, hl, _, _ => simp at hl
    | _ :: _ :: _, [], _, hl, _, _ => simp at hl
    | _ :: _ :: _, [_], _, hl, _, _ => simp at hl
/-- What a body that was run gives. -/
theorem body_parts {run : Runner X} {call : Caller X} {f : Nat} {args : List EV} {v : EV} (h : bodyEv E run call f args m = some (v, m')) :
    ∃ (fn : Func) (c : Code) (o : Out) (s : St X), E.P.funcs[f]? = some fn ∧ fn.body = some c ∧ run c ⟨argsTr args 0 .nil, max args.length fn.ntmps, m, []⟩ = some (o, s) ∧ (o = .normal ∨ o = .ret) ∧ runDf call s.df s.m = some m' ∧ resultsEv E.P fn { s with m := m' } = some v := by
  unfold bodyEv at h
  split at h
  · cases h
  · rename_i fn hf
    split at h
    · cases h
    · rename_i c hc
      have fin : ∀ s : St X, (match runDf call s.df s.m with
          | some m' => match resultsEv E.P fn { s with m := m' } with
            | some v => some (v, m')
            | none => none
          | none => none) = some (v, m') → runDf call s.df s.m = some m' ∧ resultsEv E.P fn { s with m := m' } = some v := fun s h => by
        split at h
        · rename_i m1 h1
          split at h
          · rename_i v1 h2
            injection h with h
            injection h with ha hb
            subst ha hb
            exact ⟨h1, h2⟩
          · cases h
        · cases h
      split at h
      · rename_i s hr
        obtain ⟨h1, h2⟩ := fin s h
        exact ⟨fn, c, .normal, s, hf, hc, hr, .inl rfl, h1, h2⟩
      · rename_i s hr
        obtain ⟨h1, h2⟩ := fin s h
        exact ⟨fn, c, .ret, s, hf, hc, hr, .inr rfl, h1, h2⟩
      · cases h
theorem enters_of (hE : EnvOk T ρ E) {f : Nat} {fn : Func} {c : Code} (hf : E.P.funcs[f]? = some fn) (hc : fn.body = some c) : Enters E.P f := fun vs w => by
  unfold callFunc
  have hn := hE.N f fn hf (by rw [hc]; rfl)
  simp only [Sem.run_bind, run_program, Result.andThen_ok, hf, hn, hc, Option.isNone_some, Bool.false_eq_true, if_false, Sem.run_pure]
/-- A deferred call. -/
def DefOk (T : Itp X) (P : Program) (ρ : Nat → Value) (call : Caller X) : Prop := ∀ f args m v m', call f args m = some (v, m') → Enters P f ∧
  ∀ σ own w vs, EV.concs σ ρ args = some vs → HRel T ρ σ own m w → CallsD P f vs.toArray .returning w (fun e u w' => u = .returning ∧ Post T ρ σ own m.nx w v m' e w')
theorem defOk_body (hE : EnvOk T ρ E) {run : Runner X} (hR : RunOk T E.P ρ run) : DefOk T E.P ρ (bodyEv E run (fun _ _ _ => none)) := by
  intro f args m v m' h
  obtain ⟨fn, c, o, s, hf, hc, hr, ho, hd, hv⟩ := body_parts h
  refine ⟨enters_of hE hf hc, fun σ own w vs hvs hH => ?_⟩
  have hdf : s.df = [] ∧ s.m = m' := by
    cases hs : s.df with
    | nil => rw [hs] at hd; simp only [runDf, Option.some.injEq] at hd; exact ⟨rfl, hd⟩
    | cons d l => rw [hs] at hd; simp [runDf] at hd
  refine callsD_of_wp hf hc ?_
  refine hR c _ o s hr σ own _ w ⟨hH, start_frame hvs, trivial⟩ _ fun σ1 own1 a1 w1 h1 h2 => ?_
  have hnil : a1.defers = [] := by
    have := h1.d
    rw [hdf.1] at this
    cases hx : a1.defers with
    | nil => rfl
    | cons x r => rw [hx] at this; exact this.elim
  have hs' : ({ s with m := m' } : St X) = s := by rw [← hdf.2]
  rw [hs'] at hv
  obtain ⟨u, h3, h4⟩ := results_sound hv h1.f h1.h
  have hpost : Post T ρ σ own m.nx w v m' (.returned u) w1 := ⟨u, σ1, own1, rfl, h3, by rw [← hdf.2]; exact h1.h, by rw [← hdf.2]; exact h2⟩
  rcases ho with rfl | rfl
  · exact ⟨hnil, u, h4, hpost⟩
  · exact ⟨hnil, u, h4, hpost⟩
theorem leaves_sound {fn : Func} {call : Caller X} (hD : DefOk T P ρ call) {R : Ending → World → Prop} {v : EV} {s : St X} :
    ∀ {df : List Dfr} {m1 m' : Mem X}, runDf call df m1 = some m' → resultsEv P fn { s with m := m' } = some v → ∀ {σ1 own1 w1} {ds : List Deferred} {a : Act}, HRel T ρ σ1 own1 m1 w1 → FRel ρ σ1 s.fr s.n a → DsRel ρ σ1 df ds →
      (∀ u σ2 own2 w2, v.conc σ2 ρ = some u → HRel T ρ σ2 own2 m' w2 → Stp σ1 own1 m1.nx w1 σ2 own2 m'.nx w2 → R (.returned u) w2) → Leaves P fn a.tmps R ds .returning w1
  | [], m1, m', h, hv, σ1, own1, w1, ds, a, hH, hF, hds, hR => by
    simp only [runDf, Option.some.injEq] at h
    subst h
    cases ds with
    | cons x r => exact hds.elim
    | nil =>
      obtain ⟨u, h1, h2⟩ := results_sound hv (s := { s with m := m1 }) hF hH
      exact ⟨u, h2, hR u σ1 own1 w1 h1 hH (Stp.refl ..)⟩
  | d :: df, m1, m', h, hv, σ1, own1, w1, ds, a, hH, hF, hds, hR => by
    simp only [runDf] at h
    cases ds with
    | nil => exact hds.elim
    | cons x r =>
      cases hc : call d.f (d.args ++ d.cap) m1 with
      | none => rw [hc] at h; cases h
      | some p =>
        obtain ⟨v1, m2⟩ := p
        rw [hc] at h
        obtain ⟨hen, hcd⟩ := hD _ _ _ _ _ hc
        obtain ⟨⟨⟨va, vc, h1, h2, rfl⟩⟩, hds'⟩ := hds
        have hcc := concs_append h1 h2
        refine ⟨fun e => (by cases e), .func d.f, vc.toArray, d.f, va.toArray ++ vc.toArray, rfl, hen _ _, ?_⟩
        have hx := hcd σ1 own1 w1 _ hcc hH
        rw [show (va ++ vc).toArray = va.toArray ++ vc.toArray by simp] at hx
        refine hx.mono ?_
        rintro e u w2 ⟨rfl, u', σ2, own2, rfl, h3, h4, h5⟩
        have hle := h5.le hH.dom
        exact leaves_sound hD h hv h4 (hF.mono hle) (hds'.mono hle) fun u3 σ3 own3 w3 q1 q2 q3 => hR u3 σ3 own3 w3 q1 q2 (h5.trans q3)
theorem callEv_ok (hE : EnvOk T ρ E) {run : Runner X} (hR : RunOk T E.P ρ run) : CallOk T E.P ρ (callEv E run) := by
  intro f args m v m' h
  unfold callEv at h
  split at h
  · rename_i r hk
    injection h with h
    subst h
    exact hE.K f args m v m' hk
  · obtain ⟨fn, c, o, s, hf, hc, hr, ho, hd, hv⟩ := body_parts h
    refine ⟨enters_of hE hf hc, fun σ own w vs hvs hH => ?_⟩
    refine calls_of_wp_defers hf hc ?_
    refine hR c _ o s hr σ own _ w ⟨hH, start_frame hvs, trivial⟩ _ fun σ1 own1 a1 w1 h1 h2 => ?_
    have hl : Leaves E.P fn a1.tmps (Post T ρ σ own m.nx w v m') a1.defers .returning w1 :=
      leaves_sound (defOk_body hE hR) hd hv h1.h h1.f h1.d fun u σ2 own2 w2 q1 q2 q3 => ⟨u, σ2, own2, rfl, q1, q2, h2.trans q3⟩
    rcases ho with rfl | rfl
    · exact hl
    · exact hl

/-! ### Code -/
theorem loop_rounds {dr : Caller X → List Oper → St X → Option (St X)} {c : Code} : ∀ (k : Nat), (∀ j, j < k → RunOk T E.P ρ (ev E dr j)) → ∀ {s s' : St X} {o : Out}, ev E dr k (.loop c) s = some (o, s') →
    ∃ n, ∀ {σ own a w}, SRel T ρ σ own s a w → ∀ {Q : Exit → Act → World → Prop}, (∀ σ' own' a' w', SRel T ρ σ' own' s' a' w' → Stp σ own s.m.nx w σ' own' s'.m.nx w' → Q o.to a' w') → Code.rounds E.P c Q n a w
  | 0, _, _, _, _, h => by simp [ev] at h
  | k + 1, ih, s, s', o, h => by
    simp only [ev] at h
    split at h
    · rename_i s1 h1
      obtain ⟨n, hn⟩ := loop_rounds k (fun j hj => ih j (Nat.lt_succ_of_lt hj)) h
      refine ⟨n + 1, fun {σ own a w} hS {Q} hQ => ?_⟩
      rw [rounds_succ]
      refine ih k (Nat.lt_succ_self k) c s .normal s1 h1 σ own a w hS _ fun σ1 own1 a1 w1 h2 h3 => ?_
      exact hn h2 fun σ' own' a' w' h4 h5 => hQ σ' own' a' w' h4 (h3.trans h5)
    · rename_i r hr
      refine ⟨1, fun {σ own a w} hS {Q} hQ => ?_⟩
      rw [rounds_succ]
      refine ih k (Nat.lt_succ_self k) c s o s' h σ own a w hS _ fun σ' own' a' w' h1 h2 => ?_
      have hq := hQ σ' own' a' w' h1 h2
      cases o with
      | normal => exact absurd h (hr s')
      | ret => exact hq
      | exit id => exact hq
theorem ev_ok (hE : EnvOk T ρ E) {dr : Caller X → List Oper → St X → Option (St X)} (hdr : DrawOk T E.P ρ dr) : ∀ k, RunOk T E.P ρ (ev E dr k) := by
  intro k
  induction k using Nat.strongRecOn with
  | _ k ih =>
    cases k with
    | zero => intro c s o s' h; simp [ev] at h
    | succ k =>
      have ihk := ih k (Nat.lt_succ_self k)
      intro c s o s' h σ own a w hS Q hQ
      cases c with
      | skip =>
        simp only [ev, Option.some.injEq, Prod.mk.injEq] at h
        obtain ⟨rfl, rfl⟩ := h
        exact wp_skip (hQ σ own a w hS (Stp.refl ..))
      | label l =>
        simp only [ev, Option.some.injEq, Prod.mk.injEq] at h
        obtain ⟨rfl, rfl⟩ := h
        exact wp_label (hQ σ own a w hS (Stp.refl ..))
      | ret =>
        simp only [ev, Option.some.injEq, Prod.mk.injEq] at h
        obtain ⟨rfl, rfl⟩ := h
        exact wp_ret (hQ σ own a w hS (Stp.refl ..))
      | exit id =>
        simp only [ev, Option.some.injEq, Prod.mk.injEq] at h
        obtain ⟨rfl, rfl⟩ := h
        exact wp_exit (hQ σ own a w hS (Stp.refl ..))
      | seq x y =>
        simp only [ev] at h
        refine wp_seq ?_
        split at h
        · rename_i s1 h1
          refine ihk x s .normal s1 h1 σ own a w hS _ fun σ1 own1 a1 w1 h2 h3 => ?_
          exact ihk y s1 o s' h σ1 own1 a1 w1 h2 Q fun σ' own' a' w' h4 h5 => hQ σ' own' a' w' h4 (h3.trans h5)
        · rename_i r hr
          refine ihk x s o s' h σ own a w hS _ fun σ' own' a' w' h1 h2 => ?_
          have hq := hQ σ' own' a' w' h1 h2
          cases o with
          | normal => exact absurd h (hr s')
          | ret => exact hq
          | exit id => exact hq
      | cond x y z =>
        simp only [ev] at h
        split at h
        · rename_i hx
          have h1 := opd_sound hx hS.f
          simp only [EV.conc, Option.some.injEq] at h1
          exact wp_cond_true h1.symm (ihk y s o s' h σ own a w hS Q hQ)
        · rename_i hx
          have h1 := opd_sound hx hS.f
          simp only [EV.conc, Option.some.injEq] at h1
          exact wp_cond_false h1.symm (ihk z s o s' h σ own a w hS Q hQ)
        · cases h
      | block id x =>
        simp only [ev] at h
        refine wp_block ?_
        split at h
        · rename_i j s1 h1
          split at h
          · rename_i hj
            injection h with h
            injection h with ho hs
            subst ho hs
            have hj' := Nat.eq_of_beq_eq_true hj
            refine ihk x s (.exit j) s1 h1 σ own a w hS _ fun σ' own' a' w' h2 h3 => ?_
            show Exit.inBlock id Q (.exit j) a' w'
            simp only [Exit.inBlock, hj', if_true]
            exact hQ σ' own' a' w' h2 h3
          · rename_i hj
            injection h with h
            injection h with ho hs
            subst ho hs
            have hj' : j ≠ id := Nat.ne_of_beq_eq_false hj
            refine ihk x s (.exit j) s1 h1 σ own a w hS _ fun σ' own' a' w' h2 h3 => ?_
            show Exit.inBlock id Q (.exit j) a' w'
            simp only [Exit.inBlock, hj', if_false]
            exact hQ σ' own' a' w' h2 h3
        · rename_i r hr
          refine ihk x s o s' h σ own a w hS _ fun σ' own' a' w' h1 h2 => ?_
          have hq := hQ σ' own' a' w' h1 h2
          cases o with
          | normal => exact hq
          | ret => exact hq
          | exit j => exact absurd h (hr j s')
      | loop x =>
        obtain ⟨n, hn⟩ := loop_rounds (k + 1) (fun j hj => ih j hj) h
        exact wp_loop_rounds n (hn hS hQ)
      | scope x =>
        simp only [ev] at h
        refine wp_scope_straight ?_
        refine ihk x s o s' h σ own a w hS _ fun σ' own' a' w' h1 h2 => ?_
        have hq := hQ σ' own' a' w' h1 h2
        cases o <;> exact hq
      | region id ops draw =>
        cases draw with
        | false =>
          simp only [ev] at h
          split at h
          · rename_i s1 h1
            injection h with h
            injection h with ho hs
            subst ho hs
            exact wp_region_list (ops_sound (callEv_ok hE ihk) hE.B Q ops.toList h1 hS hQ)
          · cases h
        | true =>
          simp only [ev] at h
          split at h
          · rename_i s1 h1
            injection h with h
            injection h with ho hs
            subst ho hs
            exact hdr _ (callEv_ok hE ihk) ops s s1 h1 id σ own a w hS Q hQ
          · cases h
      | rangeFunc f ps x y =>
        simp only [ev] at h
        split at h
        · rw [hE.R] at h
          cases h
        · cases h
      | goto => simp [ev] at h
      | refuse => simp [ev] at h
/-- THE LAW: what the evaluator answers to a call is so. -/
theorem call_ok (hE : EnvOk T ρ E) {dr : Caller X → List Oper → St X → Option (St X)} (hdr : DrawOk T E.P ρ dr) (k : Nat) : CallOk T E.P ρ (callEv E (ev E dr k)) := callEv_ok hE (ev_ok hE hdr k)
end
end Ev
end Go.Proofs.YtmpokappjogehaaGreatDoor
