/- Operations: as they come in, and the law's do. -/
import Derived.Test.YtejajafbopabmaaDoorBlkX
import Derived.Test.YtejajafbopabmaaDoorOpen
namespace Go.Proofs.YtejajafbopabmaaDoor
open Go.RowKit Go.ChangeShapes Go.WideShapes Go.Deep

structure OpV where
  kind : Nat
  block : Int
structure OpV.ok (o : OpV) : Prop where
  kind : o.kind < 256
  b1 : -9223372036854775808 ≤ o.block
  b2 : o.block ≤ 9223372036854775807
def OpV.cells (o : OpV) : List Value := [.int .u8 o.kind, .int .i64 o.block]
def ocells (l : List OpV) : List Value := l.flatMap OpV.cells

set_option maxRecDepth 100000 in
theorem openOps {H : Type} {enc : TypeId × Value → H} {w : World} {fuel : Nat} {a : Option Addr} {len cap : Nat} {x : DataW H × List MemPlace}
    (h : DataW.trod enc Tryd.prog w 0 (fun _ => true) true fuel 23 [.slice a len cap] = some x) :
    ∃ l : List OpV, Rd w (Old w) 2 a len (ocells l) ∧ (∀ v ∈ l, v.ok) ∧ len ≤ cap ∧ cap ≤ 9223372036854775807 := by
  rcases open_slice Tryd.underlying23 h with ⟨hcs, _⟩ | ⟨ad, l', c', m, n, D, Pl, hcs, _, hl, hm, hmm, _, hi⟩
  · simp only [List.cons.injEq, Value.slice.injEq, and_true] at hcs
    obtain ⟨rfl, rfl, rfl⟩ := hcs
    exact ⟨[], Rd.none_, by simp, Nat.le_refl _, Nat.zero_le _⟩
  · simp only [List.cons.injEq, Value.slice.injEq, and_true] at hcs
    obtain ⟨rfl, rfl, rfl⟩ := hcs
    simp only [if_true] at hmm
    have hC : Tryd.prog.cellsOf 44 = 2 := by kernel_rfl
    rw [hC] at hi
    have hel : ∀ i, i < len → ∃ v : OpV, v.ok ∧ ∀ j u, (OpV.cells v)[j]? = some u → w.cell? ((ad.add (i * 2)).add j) = some u := by
      intro i hil
      obtain ⟨cs', hc, ht'⟩ := hi i (by omega)
      obtain ⟨ys, n', _, _, hcl', hyl, hf⟩ := DataW.trod_struct Tryd.underlying44 ht'
      obtain ⟨_, hcl, hat⟩ := World.cells?_some hc
      match cs', hcl with
      | [x0, x1], _ =>
        have g0 := hf 0 _ rfl
        have g1 := hf 1 _ rfl
        match ys, hyl with
        | [y0, y1], _ =>
          have k3 : Tryd.prog.cellsOf 3 = 1 := by kernel_rfl
          have k5 : Tryd.prog.cellsOf 5 = 1 := by kernel_rfl
          simp [k3, k5] at g0 g1
          obtain ⟨a0, e0, _, b0⟩ := DataW.trod_int Tryd.underlying5 g0
          obtain ⟨a1, e1, _, b1⟩ := DataW.trod_int Tryd.underlying3 g1
          have r0 := bounds_u8 b0
          have r1 := bounds_i64 b1
          simp only [List.cons.injEq, and_true] at e0 e1
          subst e0 e1
          refine ⟨⟨a0.toNat, a1⟩, ⟨by simp only; omega, r1.1, r1.2⟩, fun j u hu => ?_⟩
          have hj : j < 2 := by
            have := (List.getElem?_eq_some_iff.1 hu).1
            simpa [OpV.cells] using this
          rw [hat j hj, ← hu]
          have ea : ((a0.toNat : Nat) : Int) = a0 := by omega
          simp [OpV.cells, ea]
    obtain ⟨l, h1, h2, h3⟩ := rd_of_elems OpV.cells 2 OpV.ok (fun v => by simp [OpV.cells]) (by omega) hel
    exact ⟨l, h3, h2, hl, by unfold maxLen at hm; exact hm⟩

theorem ocells_length (l : List OpV) : (ocells l).length = l.length * 2 := flat_length OpV.cells 2 (fun v => by simp [OpV.cells]) l
theorem Rd.opAt {w : World} {S : Nat → Prop} {A : Option Addr} {n k : Nat} {l : List OpV} {o : OpV} (h : Rd w S 2 A n (ocells l)) (hk : l[k]? = some o) :
    ∃ ad, A = some ad ∧ S ad.block ∧ w.cell? (ad.add (k * 2)) = some (.int .u8 o.kind) ∧ w.cell? ⟨(ad.add (k * 2)).block, (ad.add (k * 2)).off + 1, none⟩ = some (.int .i64 o.block) := by
  have hkl : k < l.length := (List.getElem?_eq_some_iff.1 hk).1
  have hn : l.length = n := by have := h.1; rw [ocells_length] at this; omega
  obtain ⟨ad, e, hS, hc⟩ := h.2 (by omega)
  refine ⟨ad, e, hS, ?_, ?_⟩
  · exact hc (k * 2) _ (flat_at OpV.cells 2 (fun v => by simp [OpV.cells]) l k 0 o hk (by omega))
  · have := hc (k * 2 + 1) _ (flat_at OpV.cells 2 (fun v => by simp [OpV.cells]) l k 1 o hk (by omega))
    rw [← add_of_add] at this
    exact this

theorem TabAt.size2 {t : UInt8 → UInt8} {w : World} (h : TabAt 1 t w) : 2 ≤ w.heap.size := by
  have e := h 0 (by omega)
  rw [tabV_at t 0 (by omega)] at e
  have := World.block_lt_of_cell? w _ e
  simp at this
  omega

/-- What an operation makes of the states. -/
def doL (f : Nat) (l : List UInt8) (o : OpV) : List UInt8 :=
  if o.kind % 4 = 0 then takeL l else if o.kind % 4 = 1 then giveL f l o.block else if o.kind % 4 = 2 then l.map tabC else l.map tabA

def Did (w : World) (g b c f n : Nat) (l : List UInt8) (e : Ending) (w' : World) : Prop :=
  ∃ b3 c3, e = .returned (.tuple #[mv f b3 c3 n, .bool true]) ∧ BM w' g b c f n l ∧ RM w' b3 c3 n l ∧ Fr (One b) w w'

theorem three_new (w : World) (f b2 c2 n : Nat) (o : OpV) :
    let W := ((w.alloc (.cells #[.int .i64 f, .slice (some ⟨b2, 0, none⟩) n c2] 28)).alloc (.cells #[.int .u8 o.kind, .int .i64 o.block] 44)).alloc (.cells #[.int .i64 f, .slice (some ⟨b2, 0, none⟩) n c2] 28)
    Blk W w.heap.size 28 #[.int .i64 f, .slice (some ⟨b2, 0, none⟩) n c2] ∧ Blk W (w.heap.size + 1) 44 #[.int .u8 o.kind, .int .i64 o.block] ∧
    Blk W (w.heap.size + 1 + 1) 28 #[.int .i64 f, .slice (some ⟨b2, 0, none⟩) n c2] ∧ Fr Nothing w W := by
  refine ⟨((Blk.new w _ _).alloc _).alloc _, ?_, ?_, (((Fr.refl _ _).alloc _).alloc _).alloc _⟩
  · have := Blk.new (w.alloc (.cells #[.int .i64 f, .slice (some ⟨b2, 0, none⟩) n c2] 28)) 44 #[.int .u8 o.kind, .int .i64 o.block]
    rw [World.size_alloc] at this
    exact this.alloc _
  · have := Blk.new ((w.alloc (.cells #[.int .i64 f, .slice (some ⟨b2, 0, none⟩) n c2] 28)).alloc (.cells #[.int .u8 o.kind, .int .i64 o.block] 44)) 28 #[.int .i64 f, .slice (some ⟨b2, 0, none⟩) n c2]
    rw [World.size_alloc, World.size_alloc] at this
    exact this

/-- The end of do: the result stored, and stored again. -/
theorem do_end {w w2 : World} {f b c n g b3 c3 R : Nat} {l : List UInt8} {x y : Value} (hB : Blk w2 R 28 #[x, y]) (hM : BM w2 g b c f n l) (hR : RM w2 b3 c3 n l) (hF : Fr (One b) w w2) (hR0 : w.heap.size ≤ R) :
    let wE := (w2.setCell ⟨R, 0, none⟩ (.int .i64 f)).setCell ⟨R, 1, none⟩ (.slice (some ⟨b3, 0, none⟩) n c3)
    let wF := (wE.setCell ⟨R, 0, none⟩ (.int .i64 f)).setCell ⟨R, 1, none⟩ (.slice (some ⟨b3, 0, none⟩) n c3)
    (wE.cell? ⟨R, 0, none⟩ = some (.int .i64 f) ∧ wE.cell? ⟨R, 1, none⟩ = some (.slice (some ⟨b3, 0, none⟩) n c3) ∧ wE.frozen? ⟨R, 0, none⟩ = false ∧ wE.frozen? ⟨R, 1, none⟩ = false) ∧
    (wF.cell? ⟨R, 0, none⟩ = some (.int .i64 f) ∧ wF.cell? ⟨R, 1, none⟩ = some (.slice (some ⟨b3, 0, none⟩) n c3)) ∧ BM wF g b c f n l ∧ RM wF b3 c3 n l ∧ Fr (One b) w wF := by
  have h1 := hB.set2 (.int .i64 f) (.slice (some ⟨b3, 0, none⟩) n c3)
  have h2 := h1.set2 (.int .i64 f) (.slice (some ⟨b3, 0, none⟩) n c3)
  have hgR : g ≠ R := hM.blk.ne_ hB (by decide)
  have hbR : b ≠ R := fun e => by have := own_blk_ne hM.own hB (by decide); simp [Value.ownBlock, e] at this
  have f1 := fr_one2 w2 R (.int .i64 f) (.slice (some ⟨b3, 0, none⟩) n c3)
  have f2 := f1.trans (fr_one2 _ R (.int .i64 f) (.slice (some ⟨b3, 0, none⟩) n c3))
  exact ⟨⟨h1.cell 0, h1.cell 1, h1.frozen 0, h1.frozen 1⟩, ⟨h2.cell 0, h2.cell 1⟩, hM.fr f2 (fun e => hgR e) (fun e => hbR e), hR.fr f2 (hR.ne_blk hB (by decide)), (hF.set2 (fun h => by omega) _ _).set2 (fun h => by omega) _ _⟩

set_option maxRecDepth 100000 in
set_option maxHeartbeats 4000000 in
theorem do_any (g b c f n b2 c2 : Nat) (l : List UInt8) (o : OpV) (w : World) (h : BM w g b c f n l) (hr : RM w b2 c2 n l) (ho : o.ok) (tc : TabC w) (ta : TabA w) :
    Calls Tryd.prog 23 #[.pointer (some ⟨g, 0, none⟩), mv f b2 c2 n, .agg #[.int .u8 o.kind, .int .i64 o.block]] w (Did w g b c f n (doL f l o)) := by
  have hf := h.hf
  have hk := ho.kind
  have H3 := Lib.hid (three_new w f b2 c2 n o)
  have hM := h.fr0 H3.out.2.2.2
  have hR := hr.fr0 H3.out.2.2.2
  have HM := Lib.hid hM
  have HR := Lib.hid hR
  have TC := Lib.hid (tc.fr0 H3.out.2.2.2)
  have TA := Lib.hid (ta.fr0 H3.out.2.2.2)
  have HO := Lib.hid ho
  have HBL : Hid (b < w.heap.size) := own_lt h.own
  clear h hr hM hR tc ta ho
  unfold mv
  go_enter Tryd.func23, Tryd.ntmps23
  have E0 : Hid (o.kind % 4 < 4) := Nat.mod_lt _ (by omega)
  have u1 : (o.kind : Int) % 4 = ((o.kind % 4 : Nat) : Int) := by omega
  by_cases k0 : o.kind % 4 = 0
  · have E : Hid (doL f l o = takeL l) := if_pos k0
    rw [k0] at u1
    clear k0
    go_wp2_with fail
    generalize (((w.alloc (.cells #[.int .i64 f, .slice (some ⟨b2, 0, none⟩) n c2] 28)).alloc (.cells #[.int .u8 o.kind, .int .i64 o.block] 44)).alloc (.cells #[.int .i64 f, .slice (some ⟨b2, 0, none⟩) n c2] 28)) = W at *
    refine (Take_any g b c f n l _ HM.out).mono ?_
    rintro e w1 ⟨rfl, hf1, hm1⟩
    have hnB : ∀ k, w.heap.size ≤ k → ¬ One b k := fun k hk e => by have e' : k = b := e; have := HBL.out; omega
    have X1 := Lib.hid (H3.out.1.fr hf1 (hnB _ (Nat.le_refl _)))
    have Y1 := Lib.hid (H3.out.2.2.1.fr hf1 (hnB _ (by omega)))
    have R1 := Lib.hid (HR.out.one HM.out hf1)
    have F1 : Hid (Fr (One b) w w1) := (H3.out.2.2.2.weak).trans hf1
    have M1 := Lib.hid hm1
    obtain ⟨x0, x1, _, _⟩ := X1.out.two
    have HC := Lib.hid (rTake_any f b2 c2 n l w1 R1.out hf)
    unfold mv at HC
    clear hf1 hm1 hnB
    go_wp2_with fail
    refine HC.out.mono ?_
    rintro e w2 ⟨b3, c3, rfl, hr3, hf3⟩
    obtain ⟨⟨p0, p1, p2, p3⟩, ⟨m0, m1⟩, qm, qr, qf⟩ := do_end (f := f) (Y1.out.fr hf3 (fun x => x)) (M1.out.fr0 hf3) hr3 (F1.out.trans hf3.weak) (by omega : w.heap.size ≤ w.heap.size + 1 + 1)
    obtain ⟨y0, y1, y2, y3⟩ := (Y1.out.fr hf3 (fun x => x)).two
    have QM := Lib.hid qm
    have QR := Lib.hid qr
    have QF := Lib.hid qf
    clear hr3 hf3 HC qm qr qf X1 Y1 x0 x1
    unfold mTake mv
    generalize takeB f l = tb at *
    generalize takeE l = te at *
    have z1 : (te == te) = true := by simp
    have z2 : (tb == tb) = true := by simp
    go_wp2
    exact bodyPost_ret (v := .tuple #[mv f b3 c3 n, .bool true]) (by simp [results, Tryd.results23, go_sem, mv, m0, m1]) rfl ⟨b3, c3, rfl, by rw [E.out]; exact QM.out, by rw [E.out]; exact QR.out, QF.out⟩
  · by_cases k1 : o.kind % 4 = 1
    · have E : Hid (doL f l o = giveL f l o.block) := by simp only [Hid]; unfold doL; rw [if_neg k0, if_pos k1]
      rw [k1] at u1
      clear k0 k1
      go_wp2_with fail
      generalize (((w.alloc (.cells #[.int .i64 f, .slice (some ⟨b2, 0, none⟩) n c2] 28)).alloc (.cells #[.int .u8 o.kind, .int .i64 o.block] 44)).alloc (.cells #[.int .i64 f, .slice (some ⟨b2, 0, none⟩) n c2] 28)) = W at *
      refine (Give_any g b c f n l _ _ HM.out).mono ?_
      rintro e w1 ⟨rfl, hf1, hm1⟩
      have hnB : ∀ k, w.heap.size ≤ k → ¬ One b k := fun k hk e => by have e' : k = b := e; have := HBL.out; omega
      have X1 := Lib.hid (H3.out.1.fr hf1 (hnB _ (Nat.le_refl _)))
      have Y1 := Lib.hid (H3.out.2.2.1.fr hf1 (hnB _ (by omega)))
      have R1 := Lib.hid (HR.out.one HM.out hf1)
      have F1 : Hid (Fr (One b) w w1) := (H3.out.2.2.2.weak).trans hf1
      have M1 := Lib.hid hm1
      obtain ⟨x0, x1, _, _⟩ := X1.out.two
      obtain ⟨v0, v1, _, _⟩ := (H3.out.2.1.fr hf1 (hnB _ (by omega))).two
      have HC := Lib.hid (rGive_any f b2 c2 n l o.block w1 R1.out hf HO.out.b1 HO.out.b2)
      unfold mv at HC
      clear hf1 hm1 hnB
      go_wp2_with fail
      refine HC.out.mono ?_
      rintro e w2 ⟨b3, c3, rfl, hr3, hf3⟩
      obtain ⟨⟨p0, p1, p2, p3⟩, ⟨m0, m1⟩, qm, qr, qf⟩ := do_end (f := f) (Y1.out.fr hf3 (fun x => x)) (M1.out.fr0 hf3) hr3 (F1.out.trans hf3.weak) (by omega : w.heap.size ≤ w.heap.size + 1 + 1)
      obtain ⟨y0, y1, y2, y3⟩ := (Y1.out.fr hf3 (fun x => x)).two
      have QM := Lib.hid qm
      have QR := Lib.hid qr
      have QF := Lib.hid qf
      clear hr3 hf3 HC qm qr qf X1 Y1 x0 x1 v0 v1
      unfold mGive mv
      generalize giveE f l o.block = te at *
      have z1 : (te == te) = true := by simp
      go_wp2
      exact bodyPost_ret (v := .tuple #[mv f b3 c3 n, .bool true]) (by simp [results, Tryd.results23, go_sem, mv, m0, m1]) rfl ⟨b3, c3, rfl, by rw [E.out]; exact QM.out, by rw [E.out]; exact QR.out, QF.out⟩
    · by_cases k2 : o.kind % 4 = 2
      · have E : Hid (doL f l o = l.map tabC) := by simp only [Hid]; unfold doL; rw [if_neg k0, if_neg k1, if_pos k2]
        rw [k2] at u1
        clear k0 k1 k2
        go_wp2_with fail
        generalize (((w.alloc (.cells #[.int .i64 f, .slice (some ⟨b2, 0, none⟩) n c2] 28)).alloc (.cells #[.int .u8 o.kind, .int .i64 o.block] 44)).alloc (.cells #[.int .i64 f, .slice (some ⟨b2, 0, none⟩) n c2] 28)) = W at *
        refine (Commit_any g b c f n l _ HM.out TC.out).mono ?_
        rintro e w1 ⟨rfl, hf1, hm1⟩
        have hnB : ∀ k, w.heap.size ≤ k → ¬ One b k := fun k hk e => by have e' : k = b := e; have := HBL.out; omega
        have X1 := Lib.hid (H3.out.1.fr hf1 (hnB _ (Nat.le_refl _)))
        have Y1 := Lib.hid (H3.out.2.2.1.fr hf1 (hnB _ (by omega)))
        have R1 := Lib.hid (HR.out.one HM.out hf1)
        have F1 : Hid (Fr (One b) w w1) := (H3.out.2.2.2.weak).trans hf1
        have M1 := Lib.hid hm1
        obtain ⟨x0, x1, _, _⟩ := X1.out.two
        obtain ⟨v0, v1, _, _⟩ := (H3.out.2.1.fr hf1 (hnB _ (by omega))).two
        have HC := Lib.hid (rCommit_any f b2 c2 n l w1 R1.out)
        unfold mv at HC
        clear hf1 hm1 hnB
        go_wp2_with fail
        refine HC.out.mono ?_
        rintro e w2 ⟨b3, c3, rfl, hr3, hf3⟩
        obtain ⟨⟨p0, p1, p2, p3⟩, ⟨m0, m1⟩, qm, qr, qf⟩ := do_end (f := f) (Y1.out.fr hf3 (fun x => x)) (M1.out.fr0 hf3) hr3 (F1.out.trans hf3.weak) (by omega : w.heap.size ≤ w.heap.size + 1 + 1)
        obtain ⟨y0, y1, y2, y3⟩ := (Y1.out.fr hf3 (fun x => x)).two
        have QM := Lib.hid qm
        have QR := Lib.hid qr
        have QF := Lib.hid qf
        clear hr3 hf3 HC qm qr qf X1 Y1 x0 x1 v0 v1
        unfold mv
        go_wp2
        exact bodyPost_ret (v := .tuple #[mv f b3 c3 n, .bool true]) (by simp [results, Tryd.results23, go_sem, mv, m0, m1]) rfl ⟨b3, c3, rfl, by rw [E.out]; exact QM.out, by rw [E.out]; exact QR.out, QF.out⟩
      · have k3 : o.kind % 4 = 3 := by have := E0.out; omega
        have E : Hid (doL f l o = l.map tabA) := by simp only [Hid]; unfold doL; rw [if_neg k0, if_neg k1, if_neg k2]
        rw [k3] at u1
        clear k0 k1 k2 k3
        go_wp2_with fail
        generalize (((w.alloc (.cells #[.int .i64 f, .slice (some ⟨b2, 0, none⟩) n c2] 28)).alloc (.cells #[.int .u8 o.kind, .int .i64 o.block] 44)).alloc (.cells #[.int .i64 f, .slice (some ⟨b2, 0, none⟩) n c2] 28)) = W at *
        refine (Abort_any g b c f n l _ HM.out TA.out).mono ?_
        rintro e w1 ⟨rfl, hf1, hm1⟩
        have hnB : ∀ k, w.heap.size ≤ k → ¬ One b k := fun k hk e => by have e' : k = b := e; have := HBL.out; omega
        have X1 := Lib.hid (H3.out.1.fr hf1 (hnB _ (Nat.le_refl _)))
        have Y1 := Lib.hid (H3.out.2.2.1.fr hf1 (hnB _ (by omega)))
        have R1 := Lib.hid (HR.out.one HM.out hf1)
        have F1 : Hid (Fr (One b) w w1) := (H3.out.2.2.2.weak).trans hf1
        have M1 := Lib.hid hm1
        obtain ⟨x0, x1, _, _⟩ := X1.out.two
        obtain ⟨v0, v1, _, _⟩ := (H3.out.2.1.fr hf1 (hnB _ (by omega))).two
        have HC := Lib.hid (rAbort_any f b2 c2 n l w1 R1.out)
        unfold mv at HC
        clear hf1 hm1 hnB
        go_wp2_with fail
        refine HC.out.mono ?_
        rintro e w2 ⟨b3, c3, rfl, hr3, hf3⟩
        obtain ⟨⟨p0, p1, p2, p3⟩, ⟨m0, m1⟩, qm, qr, qf⟩ := do_end (f := f) (Y1.out.fr hf3 (fun x => x)) (M1.out.fr0 hf3) hr3 (F1.out.trans hf3.weak) (by omega : w.heap.size ≤ w.heap.size + 1 + 1)
        obtain ⟨y0, y1, y2, y3⟩ := (Y1.out.fr hf3 (fun x => x)).two
        have QM := Lib.hid qm
        have QR := Lib.hid qr
        have QF := Lib.hid qf
        clear hr3 hf3 HC qm qr qf X1 Y1 x0 x1 v0 v1
        unfold mv
        go_wp2
        exact bodyPost_ret (v := .tuple #[mv f b3 c3 n, .bool true]) (by simp [results, Tryd.results23, go_sem, mv, m0, m1]) rfl ⟨b3, c3, rfl, by rw [E.out]; exact QM.out, by rw [E.out]; exact QR.out, QF.out⟩
end Go.Proofs.YtejajafbopabmaaDoor
