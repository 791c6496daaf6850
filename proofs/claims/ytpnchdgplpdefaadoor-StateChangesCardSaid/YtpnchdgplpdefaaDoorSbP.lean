/- StateGets: the walk (written by genSbP.py). -/
import Derived.Test.YtpnchdgplpdefaaDoorSbO
import Derived.Test.YtpnchdgplpdefaaDoorSaL
namespace Go.Proofs.YtpnchdgplpdefaaDoor
open Go.RowKit Go.Shelf

theorem neqN_same (a : NameV) (w : World) : (binOp .neq 40 (.agg a.cells.toArray) (.agg a.cells.toArray)).run Tryd.prog w = .ok (.bool false) w := by
  obtain ⟨k, o, n, i, t⟩ := a
  simp only [NameV.cells]
  go_simp
theorem filter_at {α : Type} (p : α → Bool) : ∀ (L : List α) (i : Nat) (x : α), L[i]? = some x → p x = true → (L.filter p)[((L.take i).filter p).length]? = some x
  | [], _, _, h, _ => by simp at h
  | a :: L, 0, x, h, hp => by
    simp only [List.getElem?_cons_zero, Option.some.injEq] at h
    subst h
    simp [hp]
  | a :: L, i + 1, x, h, hp => by
    have h1 := filter_at p L i x (by simpa using h) hp
    rw [List.take_succ_cons, List.filter_cons, List.filter_cons]
    split
    · simpa using h1
    · exact h1
theorem flat5 : ∀ (xs : List Ent) (k : Nat) (c : Ent), xs[k]? = some c → ∀ j x, c.1.cells[j]? = some x → (xs.flatMap (fun x => x.1.cells))[k * 5 + j]? = some x
  | [], _, _, h, _, _, _ => by simp at h
  | y :: ys, 0, c, h, j, x, hx => by
    simp only [List.getElem?_cons_zero, Option.some.injEq] at h
    subst h
    have hj : j < 5 := (List.getElem?_eq_some_iff.1 hx).1
    rw [List.flatMap_cons, Nat.zero_mul, Nat.zero_add, List.getElem?_append_left hj]
    exact hx
  | y :: ys, k + 1, c, h, j, x, hx => by
    rw [List.flatMap_cons, List.getElem?_append_right (by rw [NameV.cells_length]; omega), show (k + 1) * 5 + j - y.1.cells.length = k * 5 + j by rw [NameV.cells_length]; omega]
    exact flat5 ys k c (by simpa using h) j x hx
def isK (kind : Int) (x : Ent) : Bool := x.1.kind == kind
def cntK (kind : Int) (L : List Ent) (i : Nat) : Nat := ((L.take i).filter (isK kind)).length
def GInv (w : World) (kind : Int) (L : List Ent) (k i : Value) (wr : World) : Prop := ∃ j : Nat, j ≤ L.length ∧ i = .int .i64 (j : Int) ∧ k = .int .i64 (cntK kind L j : Int) ∧ Fr Nothing w wr
theorem cntK_next {kind : Int} {L : List Ent} {i : Nat} {x : Ent} (h : L[i]? = some x) : cntK kind L (i + 1) = cntK kind L i + (if isK kind x then 1 else 0) := by
  unfold cntK
  rw [List.take_add_one, h, Option.toList_some, List.filter_append, List.length_append]
  congr 1
  cases hb : isK kind x <;> simp [hb]
theorem cntK_le {kind : Int} {L : List Ent} {i : Nat} : cntK kind L i ≤ (L.filter (isK kind)).length := ((List.take_sublist i L).filter _).length_le

set_option maxRecDepth 100000 in
set_option maxHeartbeats 4000000 in
theorem StateGets_any (len : Nat) (xs : List CV) (A : Option Addr) (c0 : Nat) (S : Nat → Prop) (nm : NameV) (kind : Int) (w : World) (hD : CL w S A len xs) (hn : len ≤ 9223372036854775807) (hU : UsaT w) :
    Calls Tryd.prog 4 #[.slice A len c0, .agg nm.cells.toArray, .int .i64 kind] w (TrueNew w) := by
  have HD := Lib.hid hD
  have HN := Lib.hid hn
  have HU := Lib.hid hU
  have CK : Hid (∀ w', Fr Nothing w w' → Calls Tryd.prog 12 #[] w' (Same' w' (.bool true))) := fun w' hf => known_any w' (HU.out.fr0 hf)
  have GF : Hid (GoodK 24 (fillL xs len)) := fillL_good xs len hD.len
  generalize hFL : fillL xs len = L at *
  have CF : Hid (∀ w', Fr Nothing w w' → Calls Tryd.prog 17 #[.slice A len c0] w' (Filled w' L)) := fun w' hf => by rw [← hFL]; exact fill_any len xs A c0 S w' (HD.out.fr0 hf) HN.out (HU.out.fr0 hf)
  clear hD hn hU hFL
  go_enter Tryd.func4, Tryd.ntmps4
  go_wp2_with (refine wpList_boxBlk rfl 40 (.tmp 1) rfl nm.cells.toArray rfl ?_)
  intro w1 n1
  have B0 := Lib.hid n1.blk
  have F1 := Lib.hid n1.fr
  clear n1
  generalize hg4 : w.heap.size = g4 at *
  have HG4 := Lib.hid hg4
  clear hg4
  go_wp2_with fail
  refine (CK.out _ F1.out).mono ?_
  rintro e w2 ⟨rfl, f2⟩
  have F2 := Lib.hid (F1.out.trans f2)
  have B1 : Hid (Blk w2 g4 40 #[.int .i64 nm.kind, .string nm.owner, .int .i64 nm.number, .int .i64 nm.index, .string nm.text]) := B0.out.fr f2 (fun x => x)
  clear f2 F1 B0 CK
  obtain ⟨j1, hj1⟩ : ∃ j1 : Int, min (nm.owner.size : Int) 100 = j1 := ⟨_, rfl⟩
  obtain ⟨j2, hj2⟩ : ∃ j2 : Int, min (nm.text.size : Int) 100 = j2 := ⟨_, rfl⟩
  have p1 : 0 ≤ j1 := by omega
  have q1 : j1 ≤ (nm.owner.size : Int) := by omega
  have p2 : 0 ≤ j2 := by omega
  have q2 : j2 ≤ (nm.text.size : Int) := by omega
  obtain ⟨o5, ho5⟩ : ∃ o5, nm.owner.extract 0 j1.toNat = o5 := ⟨_, rfl⟩
  obtain ⟨t5, ht5⟩ : ∃ t5, nm.text.extract 0 j2.toNat = t5 := ⟨_, rfl⟩
  have HO5 : Hid (o5.size ≤ 100) := by
    simp only [Hid]
    rw [← ho5, ← hj1]
    exact cutS_size nm.owner 100
  have HT5 : Hid (t5.size ≤ 100) := by
    simp only [Hid]
    rw [← ht5, ← hj2]
    exact cutS_size nm.text 100
  go_upto_region 3 with fail
  refine wp_region_st 17 (fun k => k = g4) [Is (.pointer (some ⟨g4, 1, none⟩)), Is (.string nm.owner), Is (.pointer (some ⟨g4, 1, none⟩)), Is (.string nm.owner), Is (.int .i64 nm.owner.size), Is (.int .i64 j1), Is (.string o5), Is (.pointer (some ⟨g4, 4, none⟩)), Is (.string nm.text), Is (.pointer (some ⟨g4, 4, none⟩)), Is (.string nm.text), Is (.int .i64 nm.text.size), Is (.int .i64 j2), Is (.string t5), Is (.pointer (some ⟨g4, 1, none⟩)), Is (undef), Is (.pointer (some ⟨g4, 4, none⟩))] [(15, fun W => Blk W g4 40 #[.int .i64 nm.kind, .string o5, .int .i64 nm.number, .int .i64 nm.index, .string nm.text])] (fun W => Blk W g4 40 #[.int .i64 nm.kind, .string nm.owner, .int .i64 nm.number, .int .i64 nm.index, .string nm.text]) (fun i j => j == 15 && (decide (i < 11) || i == 14)) (by kernel_rfl) (by kernel_rfl) (by kernel_rfl) (by kernel_rfl) ⟨Is.stable _, Is.stable _, Is.stable _, Is.stable _, Is.stable _, Is.stable _, Is.stable _, Is.stable _, Is.stable _, Is.stable _, Is.stable _, Is.stable _, Is.stable _, Is.stable _, Is.stable _, Is.stable _, Is.stable _, trivial⟩ ⟨fun _ _ _ hf h => h.fr hf (fun x => x), trivial⟩ (fun _ _ _ hf h => h.fr hf (fun x => x)) B1.out.drew ?_ ?_
  · refine ⟨fun u w' d hf hR k1 k0 kM => ?_, fun u w' d hf hR k1 k0 kM => ?_, fun u w' d hf hR k1 k0 kM => ?_, fun u w' d hf hR k1 k0 kM => ?_, fun u w' d hf hR k1 k0 kM => ?_, fun u w' d hf hR k1 k0 kM => ?_, fun u w' d hf hR k1 k0 kM => ?_, fun u w' d hf hR k1 k0 kM => ?_, fun u w' d hf hR k1 k0 kM => ?_, fun u w' d hf hR k1 k0 kM => ?_, fun u w' d hf hR k1 k0 kM => ?_, fun u w' d hf hR k1 k0 kM => ?_, fun u w' d hf hR k1 k0 kM => ?_, fun u w' d hf hR k1 k0 kM => ?_, fun u w' d hf hR k1 k0 kM => ?_, fun u w' d hf hR k1 k0 kM => ?_, fun u w' d hf hR k1 k0 kM => ?_, trivial⟩
    all_goals simp only [List.take_succ_cons, List.take_zero, List.map_cons, List.map_nil, puts, Act.put, List.setIfInBounds_toArray, List.set_cons_zero, List.set_cons_succ, Nat.reduceAdd, Nat.zero_add]
    · clear hR k1 k0 kM
      refine .inl ⟨by kernel_rfl, ?_⟩
      go_simp
      exact ⟨_, rfl, Fr.refl _ _, rfl, trivial⟩
    · have h0 : u 0 = _ := hR 0 (by kernel_rfl)
      clear hR
      simp only [h0]
      refine .inl ⟨by kernel_rfl, ?_⟩
      have hB : Blk w' g4 40 #[.int .i64 nm.kind, .string nm.owner, .int .i64 nm.number, .int .i64 nm.index, .string nm.text] := by rw [stage, if_neg (by rw [k0 15 (by kernel_rfl)]; exact Bool.false_ne_true)] at kM; exact kM
      clear k1 k0 kM
      have hc : w'.cell? ⟨g4, 1, none⟩ = some (.string nm.owner) := hB.cell 1
      go_simp
      exact ⟨_, rfl, Fr.refl _ _, rfl, trivial⟩
    · clear hR k1 k0 kM
      refine .inl ⟨by kernel_rfl, ?_⟩
      go_simp
      exact ⟨_, rfl, Fr.refl _ _, rfl, trivial⟩
    · have h2 : u 2 = _ := hR 2 (by kernel_rfl)
      clear hR
      simp only [h2]
      refine .inl ⟨by kernel_rfl, ?_⟩
      have hB : Blk w' g4 40 #[.int .i64 nm.kind, .string nm.owner, .int .i64 nm.number, .int .i64 nm.index, .string nm.text] := by rw [stage, if_neg (by rw [k0 15 (by kernel_rfl)]; exact Bool.false_ne_true)] at kM; exact kM
      clear k1 k0 kM
      have hc : w'.cell? ⟨g4, 1, none⟩ = some (.string nm.owner) := hB.cell 1
      go_simp
      exact ⟨_, rfl, Fr.refl _ _, rfl, trivial⟩
    · have h3 : u 3 = _ := hR 3 (by kernel_rfl)
      clear hR k1 k0 kM
      simp only [h3]
      refine .inl ⟨by kernel_rfl, ?_⟩
      go_simp
      exact ⟨_, rfl, Fr.refl _ _, rfl, trivial⟩
    · have h4 : u 4 = _ := hR 4 (by kernel_rfl)
      clear hR k1 k0 kM
      simp only [h4]
      refine .inl ⟨by kernel_rfl, ?_⟩
      go_simp
      exact ⟨_, rfl, Fr.refl _ _, rfl, trivial⟩
    · have h1 : u 1 = _ := hR 1 (by kernel_rfl)
      have h5 : u 5 = _ := hR 5 (by kernel_rfl)
      clear hR k1 k0 kM
      simp only [h1, h5]
      refine .inl ⟨by kernel_rfl, ?_⟩
      go_simp
      exact ⟨_, rfl, Fr.refl _ _, rfl, trivial⟩
    · clear hR k1 k0 kM
      refine .inl ⟨by kernel_rfl, ?_⟩
      go_simp
      exact ⟨_, rfl, Fr.refl _ _, rfl, trivial⟩
    · have h7 : u 7 = _ := hR 7 (by kernel_rfl)
      clear hR
      simp only [h7]
      refine .inl ⟨by kernel_rfl, ?_⟩
      have hB : Blk w' g4 40 #[.int .i64 nm.kind, .string nm.owner, .int .i64 nm.number, .int .i64 nm.index, .string nm.text] := by rw [stage, if_neg (by rw [k0 15 (by kernel_rfl)]; exact Bool.false_ne_true)] at kM; exact kM
      clear k1 k0 kM
      have hc : w'.cell? ⟨g4, 4, none⟩ = some (.string nm.text) := hB.cell 4
      go_simp
      exact ⟨_, rfl, Fr.refl _ _, rfl, trivial⟩
    · clear hR k1 k0 kM
      refine .inl ⟨by kernel_rfl, ?_⟩
      go_simp
      exact ⟨_, rfl, Fr.refl _ _, rfl, trivial⟩
    · have h9 : u 9 = _ := hR 9 (by kernel_rfl)
      clear hR
      simp only [h9]
      refine .inl ⟨by kernel_rfl, ?_⟩
      have hB : Blk w' g4 40 #[.int .i64 nm.kind, .string nm.owner, .int .i64 nm.number, .int .i64 nm.index, .string nm.text] := by rw [stage, if_neg (by rw [k0 15 (by kernel_rfl)]; exact Bool.false_ne_true)] at kM; exact kM
      clear k1 k0 kM
      have hc : w'.cell? ⟨g4, 4, none⟩ = some (.string nm.text) := hB.cell 4
      go_simp
      exact ⟨_, rfl, Fr.refl _ _, rfl, trivial⟩
    · have h10 : u 10 = _ := hR 10 (by kernel_rfl)
      clear hR k1 k0 kM
      simp only [h10]
      refine .inl ⟨by kernel_rfl, ?_⟩
      go_simp
      exact ⟨_, rfl, Fr.refl _ _, rfl, trivial⟩
    · have h11 : u 11 = _ := hR 11 (by kernel_rfl)
      clear hR k1 k0 kM
      simp only [h11]
      refine .inl ⟨by kernel_rfl, ?_⟩
      go_simp
      exact ⟨_, rfl, Fr.refl _ _, rfl, trivial⟩
    · have h8 : u 8 = _ := hR 8 (by kernel_rfl)
      have h12 : u 12 = _ := hR 12 (by kernel_rfl)
      clear hR k1 k0 kM
      simp only [h8, h12]
      refine .inl ⟨by kernel_rfl, ?_⟩
      go_simp
      exact ⟨_, rfl, Fr.refl _ _, rfl, trivial⟩
    · clear hR k1 k0 kM
      refine .inl ⟨by kernel_rfl, ?_⟩
      go_simp
      exact ⟨_, rfl, Fr.refl _ _, rfl, trivial⟩
    · have h14 : u 14 = _ := hR 14 (by kernel_rfl)
      have h6 : u 6 = _ := hR 6 (by kernel_rfl)
      clear hR
      simp only [h14, h6]
      refine .inl ⟨by kernel_rfl, ?_⟩
      have hB : Blk w' g4 40 #[.int .i64 nm.kind, .string nm.owner, .int .i64 nm.number, .int .i64 nm.index, .string nm.text] := by rw [stage, if_neg (by rw [k0 15 (by kernel_rfl)]; exact Bool.false_ne_true)] at kM; exact kM
      clear k1 k0 kM
      refine wp_storeOne 9 (.tmp 32) (.tmp 24) rfl g4 1 (.string o5) rfl rfl rfl infoStr _ _ _ hB (show 1 < 5 by decide) rfl ?_
      intro w4 b4 f4
      exact ⟨_, rfl, f4, rfl, b4⟩
    · clear hR k1 k0 kM
      refine .inl ⟨by kernel_rfl, ?_⟩
      go_simp
      exact ⟨_, rfl, Fr.refl _ _, rfl, trivial⟩
  · intro u w' hf hR kM
    have k13 : u 13 = _ := hR 13 (by omega)
    have k16 : u 16 = _ := hR 16 (by omega)
    clear hR
    simp only [List.take_succ_cons, List.take_zero, List.map_cons, List.map_nil, puts, Act.put, List.setIfInBounds_toArray, List.set_cons_zero, List.set_cons_succ, List.drop_succ_cons, List.drop_zero, Nat.reduceAdd, Nat.zero_add, k13, k16]
    have B8 : Hid (Blk w' g4 40 #[.int .i64 nm.kind, .string o5, .int .i64 nm.number, .int .i64 nm.index, .string nm.text]) := kM
    have F8 : Hid (Fr (fun k => k = g4) w2 w') := hf
    have OT : Hid ((Value.string t5).oneCell' = true) := by simp [Hid, Value.oneCell']
    have SZ4 : Hid (4 < (#[.int .i64 nm.kind, .string o5, .int .i64 nm.number, .int .i64 nm.index, .string nm.text] : Array Value).size) := by simp [Hid]
    have ST4 : Hid ((#[.int .i64 nm.kind, .string o5, .int .i64 nm.number, .int .i64 nm.index, .string nm.text] : Array Value).setIfInBounds 4 (.string t5) = #[.int .i64 nm.kind, .string o5, .int .i64 nm.number, .int .i64 nm.index, .string t5]) := rfl
    clear kM hf B1 k13 k16
    refine wpList_storeOne rfl 9 (.tmp 33) (.tmp 31) rfl g4 4 (.string t5) rfl rfl OT.out infoStr 40 #[.int .i64 nm.kind, .string o5, .int .i64 nm.number, .int .i64 nm.index, .string nm.text] #[.int .i64 nm.kind, .string o5, .int .i64 nm.number, .int .i64 nm.index, .string t5] B8.out SZ4.out ST4.out ?_
    intro wd bd fd
    obtain ⟨y, hy⟩ : ∃ y : NameV, y = ⟨nm.kind, o5, nm.number, nm.index, t5⟩ := ⟨_, rfl⟩
    have GY : Hid (GoodN y) := ⟨by rw [hy]; have := HO5.out; simp only; omega, by rw [hy]; have := HT5.out; simp only; omega⟩
    have B9 : Hid (Blk wd g4 40 y.cells.toArray) := by rw [hy]; exact bd
    have F9 : Hid (Fr Nothing w wd) := F2.out.then_ (F8.out.trans fd) (fun i hi e => by have e' : i = g4 := e; have := HG4.out; omega)
    have HD9 : Hid (CL wd S A len xs) := HD.out.fr0 F9.out
    clear bd fd B8 F8 OT SZ4 ST4 hy hj1 hj2 p1 q1 p2 q2 ho5 ht5 HO5 HT5 F2
    go_wp2_with fail
    refine (CF.out _ F9.out).mono ?_
    rintro e w3 ⟨s, rv, rfl, f3, hS, hR⟩
    have F3 := Lib.hid (F9.out.trans f3)
    have B3 := Lib.hid (B9.out.fr f3 (fun x => x))
    have HS3 := Lib.hid hS
    have HR3 := Lib.hid hR
    clear f3 hS hR B9 F9 CF
    go_wp2_with (refine wpList_load_add rfl 40 (.tmp 4) rfl ⟨g4, 0, none⟩ rfl y.cells _ ?hcc1 Tryd.underlying40 rfl infoN (Held.go ?hold1))
    case hcc1 => exact fun j x hx => by rw [Addr.add_mid, Nat.zero_add, B3.out.cell, List.getElem?_toArray]; exact hx
    unfold Held
    go_wp2_with fail
    refine (To4_any y _).mono ?_
    rintro e w4 ⟨rfl, f4⟩
    have F4 := Lib.hid (F3.out.trans f4)
    have F34 : Hid (Fr Nothing w3 w4) := f4
    clear f4
    go_wp2_with fail
    refine (Get_any L y s _ (HS3.out.fr0 F34.out) (GF.out.good (by omega)) GY.out).mono ?_
    rintro e w5 ⟨rfl, f5⟩
    have F5 := Lib.hid (F4.out.trans f5)
    have F35 : Hid (Fr Nothing w3 w5) := F34.out.trans f5
    have B5 := Lib.hid (B3.out.fr F35.out (fun x => x))
    clear f5 F4 F34 B3
    obtain ⟨gv, gb, hgv⟩ : ∃ gv gb, getV (findL y L) = .tuple #[.string gv, .bool gb] := by
      cases findL y L with
      | none => exact ⟨_, _, rfl⟩
      | some v => exact ⟨_, _, rfl⟩
    have HGV := Lib.hid hgv
    simp only [hgv]
    clear hgv
    go_wp2_with (refine wpList_load_add rfl 40 (.tmp 4) rfl ⟨g4, 0, none⟩ rfl y.cells _ ?hcc2 Tryd.underlying40 rfl infoN (Held.go ?hold2))
    case hcc2 => exact fun j x hx => by rw [Addr.add_mid, Nat.zero_add, B5.out.cell, List.getElem?_toArray]; exact hx
    unfold Held
    go_wp2_with fail
    refine (rGet_any L y rv _ (HR3.out.fr0 F35.out) (GF.out.good (by omega)) GY.out).mono ?_
    rintro e w6 ⟨rfl, f6⟩
    have F6 := Lib.hid (F5.out.trans f6)
    have F36 : Hid (Fr Nothing w3 w6) := F35.out.trans f6
    clear f6 F5 F35 B5
    rw [HGV.out]
    go_wp2_with fail
    obtain ⟨t, hst, htl⟩ := HS3.out.fr0 F36.out
    refine (Kind_any kind s t _ hst (by have h := t.toL_length; rw [htl] at h; have := GF.out.len; omega)).mono ?_
    rintro e w7 ⟨v7, rfl, hG7⟩
    rw [htl] at hG7
    have F7 := Lib.hid (F6.out.trans hG7.fr0)
    have F37 : Hid (Fr Nothing w3 w7) := F36.out.trans hG7.fr0
    have hG8 : Grew 36 5 w6 (.slice none 0 0) w7 v7 (L.filter (isK kind)).length ((L.filter (isK kind)).flatMap (fun x => x.1.cells)) := hG7
    obtain ⟨A7, n7, c7, rfl, H7, _⟩ := own_slice hG8.own
    have hn7 := H7.out
    subst hn7
    have RD7 := Lib.hid (Rd.of_own hG8.own).any
    obtain ⟨A1, n1, c1, rfl, H1, _⟩ := own_slice HR3.out
    have hn1 := H1.out
    subst hn1
    have EL7 : Hid (EL w7 (fun _ => True) A1 L.length L) := ((HR3.out.fr0 F37.out).el).2.1
    have LN : Hid (L.length ≤ 24) := GF.out.len
    have HM : Hid (cntK kind L L.length = (L.filter (isK kind)).length) := by simp only [Hid, cntK]; rw [List.take_length]
    have HFA : Hid (∀ i x, L[i]? = some x → isK kind x = true → (L.filter (isK kind))[cntK kind L i]? = some x) := fun i x h hp => filter_at (isK kind) L i x h hp
    have ML : Hid ((L.filter (isK kind)).length ≤ 24) := by have := List.length_filter_le (isK kind) L; have := LN.out; simp only [Hid]; omega
    have KLE0 : Hid (∀ i, cntK kind L i ≤ (L.filter (isK kind)).length) := fun i => cntK_le
    have HFL7 : Hid (∀ i y, (L.filter (isK kind))[i]? = some y → i < (L.filter (isK kind)).length) := fun i y h => (List.getElem?_eq_some_iff.1 h).1
    have HC0 : Hid (GInv w7 kind L (.int .i64 0) (.int .i64 0) w7) := ⟨0, by omega, rfl, rfl, Fr.refl _ _⟩
    have FL5 : Hid (∀ k c, (L.filter (isK kind))[k]? = some c → ∀ j x, c.1.cells[j]? = some x → ((L.filter (isK kind)).flatMap (fun x => x.1.cells))[k * 5 + j]? = some x) := fun k c h j x hx => flat5 _ k c h j x hx
    clear hG7 hG8 F6 F36 hst htl
    generalize hM : (L.filter (isK kind)).length = M at *
    generalize L.filter (isK kind) = FM at *
    have HMM := Lib.hid hM
    clear hM
    generalize hNN : L.length = NN at *
    have HNN := Lib.hid hNN
    clear hNN
    go_wp2
    go_loopw [14, 15] (fun k i wr => GInv w7 kind L k i wr) (fun _ i _ => NN - (intOf i).toNat)
    case atStart => exact HC0.out
    case round =>
      obtain ⟨j, hj, rfl, rfl, hF⟩ := hrel
      have FR := Lib.hid hF
      have hn24 : NN ≤ 24 := LN.out
      have hj' : j ≤ NN := by have := HNN.out; omega
      have KLE : Hid (cntK kind L j ≤ M) := KLE0.out j
      have hm24 : M ≤ 24 := ML.out
      clear hF HC0 hj
      by_cases hlt : j < NN
      · have hI : (j : Int) < (NN : Int) := by omega
        have hI0 : (0 : Int) ≤ (j : Int) := by omega
        have t0 : decide ((j : Int) < (NN : Int)) = true := decide_eq_true hI
        obtain ⟨ad, x, rfl, hx, hc⟩ := (EL7.out.fr0 FR.out).at_ hlt
        have HX := Lib.hid hx
        have HNX := Lib.hid (cntK_next (kind := kind) hx)
        have cK : wr.cell? (ad.add (j * 6)) = some (.int .i64 x.1.kind) := by have h := hc 0 _ rfl; simpa [Addr.add] using h
        have HC := Lib.hid hc
        clear hc hx
        obtain ⟨q, hq⟩ : ∃ q, q = cntK kind L j := ⟨_, rfl⟩
        rw [← hq] at KLE HNX
        have HQ := Lib.hid hq
        rw [← hq]
        clear hq
        have hq24 : q ≤ 24 := by have := KLE.out; omega
        by_cases hk : x.1.kind = kind
        · have t1 : (x.1.kind != kind) = false := by rw [hk]; simp
          have HIS : Hid (isK kind x = true) := by simp only [Hid, isK]; rw [hk]; simp
          have HAT := HFA.out j x HX.out HIS.out
          rw [← HQ.out] at HAT
          have hqM : q < M := HFL7.out q x HAT
          obtain ⟨a7, rfl, _, hc7⟩ := RD7.out.2 (by omega)
          have C7 : Hid (∀ jj v, x.1.cells[jj]? = some v → wr.cell? ((a7.add (q * 5)).add jj) = some v) := fun jj v hv => by
            have h := FR.out.cellSome (hc7 (q * 5 + jj) v (FL5.out q x HAT jj v hv)) (fun x => x)
            rw [add_of_add]; exact h
          have t2 : decide ((M : Int) ≤ (q : Int)) = false := decide_eq_false (by omega)
          have t3 : ¬ M ≤ q := by omega
          have t4 : (q : Int) < (M : Int) := by omega
          have t5 : (0 : Int) ≤ (q : Int) := by omega
          clear hk hc7 HAT
          go_upto_region 13 with fail
          refine wp_region_st 17 Nothing [Is (.int .i64 (q : Int)), Is (.slice (some a7) M c7), Is (.int .i64 (M : Int)), Is (.bool false), Is (.bool false), Is (.slice (some a7) M c7), Is (.int .i64 (q : Int)), Is (.pointer (some (a7.add (q * 5)))), Is (.agg x.1.cells.toArray), Is (.agg x.1.cells.toArray), Is (.slice (some ad) NN c1), Is (.int .i64 (j : Int)), Is (.pointer (some (ad.add (j * 6)))), Is (.pointer (some (ad.add (j * 6)))), Is (.agg x.1.cells.toArray), Is (.bool false), Is (.bool false)] [] (fun _ => True) (fun _ _ => false) (by kernel_rfl) (by kernel_rfl) (by kernel_rfl) (by kernel_rfl) ⟨Is.stable _, Is.stable _, Is.stable _, Is.stable _, Is.stable _, Is.stable _, Is.stable _, Is.stable _, Is.stable _, Is.stable _, Is.stable _, Is.stable _, Is.stable _, Is.stable _, Is.stable _, Is.stable _, Is.stable _, trivial⟩ trivial (fun _ _ _ _ h => h) trivial ?_ ?_
          · refine ⟨fun u w' d hf hR k1 k0 kM => ?_, fun u w' d hf hR k1 k0 kM => ?_, fun u w' d hf hR k1 k0 kM => ?_, fun u w' d hf hR k1 k0 kM => ?_, fun u w' d hf hR k1 k0 kM => ?_, fun u w' d hf hR k1 k0 kM => ?_, fun u w' d hf hR k1 k0 kM => ?_, fun u w' d hf hR k1 k0 kM => ?_, fun u w' d hf hR k1 k0 kM => ?_, fun u w' d hf hR k1 k0 kM => ?_, fun u w' d hf hR k1 k0 kM => ?_, fun u w' d hf hR k1 k0 kM => ?_, fun u w' d hf hR k1 k0 kM => ?_, fun u w' d hf hR k1 k0 kM => ?_, fun u w' d hf hR k1 k0 kM => ?_, fun u w' d hf hR k1 k0 kM => ?_, fun u w' d hf hR k1 k0 kM => ?_, trivial⟩
            all_goals simp only [List.take_succ_cons, List.take_zero, List.map_cons, List.map_nil, puts, Act.put, List.setIfInBounds_toArray, List.set_cons_zero, List.set_cons_succ, Nat.reduceAdd, Nat.zero_add]
            · clear hR k1 k0 kM
              refine .inl ⟨by kernel_rfl, ?_⟩
              go_simp
              exact ⟨_, rfl, Fr.refl _ _, rfl, trivial⟩
            · clear hR k1 k0 kM
              refine .inl ⟨by kernel_rfl, ?_⟩
              go_simp
              exact ⟨_, rfl, Fr.refl _ _, rfl, trivial⟩
            · have h1 : u 1 = _ := hR 1 (by kernel_rfl)
              clear hR k1 k0 kM
              simp only [h1]
              refine .inl ⟨by kernel_rfl, ?_⟩
              go_simp
              exact ⟨_, rfl, Fr.refl _ _, rfl, trivial⟩
            · have h0 : u 0 = _ := hR 0 (by kernel_rfl)
              have h2 : u 2 = _ := hR 2 (by kernel_rfl)
              clear hR k1 k0 kM
              simp only [h0, h2]
              refine .inl ⟨by kernel_rfl, ?_⟩
              go_simp
              exact ⟨_, rfl, Fr.refl _ _, rfl, trivial⟩
            · have h3 : u 3 = _ := hR 3 (by kernel_rfl)
              clear hR k1 k0 kM
              simp only [h3]
              refine .inl ⟨by kernel_rfl, ?_⟩
              go_simp
              exact ⟨_, rfl, Fr.refl _ _, rfl, trivial⟩
            · have h4 : u 4 = _ := hR 4 (by kernel_rfl)
              clear hR k1 k0 kM
              simp only [h4]
              refine .inl ⟨by kernel_rfl, ?_⟩
              go_simp
              exact ⟨_, rfl, Fr.refl _ _, rfl, trivial⟩
            · have h4 : u 4 = _ := hR 4 (by kernel_rfl)
              clear hR k1 k0 kM
              simp only [h4]
              refine .inl ⟨by kernel_rfl, ?_⟩
              go_simp
              exact ⟨_, rfl, Fr.refl _ _, rfl, trivial⟩
            · have h5 : u 5 = _ := hR 5 (by kernel_rfl)
              have h6 : u 6 = _ := hR 6 (by kernel_rfl)
              have h4 : u 4 = _ := hR 4 (by kernel_rfl)
              clear hR k1 k0 kM
              simp only [h5, h6, h4]
              refine .inl ⟨by kernel_rfl, ?_⟩
              go_simp
              exact ⟨_, rfl, Fr.refl _ _, rfl, trivial⟩
            · have h7 : u 7 = _ := hR 7 (by kernel_rfl)
              have h4 : u 4 = _ := hR 4 (by kernel_rfl)
              clear hR k1 k0 kM
              simp only [h7, h4]
              refine .inl ⟨by kernel_rfl, ?_⟩
              exact wp_load_add _ _ rfl (a7.add (q * 5)) rfl x.1.cells _ (fun jj v hv => hf.cellSome (C7.out jj v hv) (fun x => x)) Tryd.underlying36 rfl infoName ⟨_, rfl, Fr.refl _ _, rfl, trivial⟩
            · have h8 : u 8 = _ := hR 8 (by kernel_rfl)
              have h4 : u 4 = _ := hR 4 (by kernel_rfl)
              clear hR k1 k0 kM
              simp only [h8, h4]
              refine .inl ⟨by kernel_rfl, ?_⟩
              go_simp
              refine (Of4_any x.1 _).mono ?_
              rintro e w4 ⟨rfl, f4⟩
              exact ⟨_, rfl, f4.weak, rfl, trivial⟩
            · have h4 : u 4 = _ := hR 4 (by kernel_rfl)
              clear hR k1 k0 kM
              simp only [h4]
              refine .inl ⟨by kernel_rfl, ?_⟩
              go_simp
              exact ⟨_, rfl, Fr.refl _ _, rfl, trivial⟩
            · have h4 : u 4 = _ := hR 4 (by kernel_rfl)
              clear hR k1 k0 kM
              simp only [h4]
              refine .inl ⟨by kernel_rfl, ?_⟩
              go_simp
              exact ⟨_, rfl, Fr.refl _ _, rfl, trivial⟩
            · have h10 : u 10 = _ := hR 10 (by kernel_rfl)
              have h11 : u 11 = _ := hR 11 (by kernel_rfl)
              have h4 : u 4 = _ := hR 4 (by kernel_rfl)
              clear hR k1 k0 kM
              simp only [h10, h11, h4]
              refine .inl ⟨by kernel_rfl, ?_⟩
              go_simp
              exact ⟨_, rfl, Fr.refl _ _, rfl, trivial⟩
            · have h12 : u 12 = _ := hR 12 (by kernel_rfl)
              have h4 : u 4 = _ := hR 4 (by kernel_rfl)
              clear hR k1 k0 kM
              simp only [h12, h4]
              refine .inl ⟨by kernel_rfl, ?_⟩
              go_simp
              exact ⟨_, rfl, Fr.refl _ _, rfl, trivial⟩
            · have h13 : u 13 = _ := hR 13 (by kernel_rfl)
              have h4 : u 4 = _ := hR 4 (by kernel_rfl)
              clear hR k1 k0 kM
              simp only [h13, h4]
              refine .inl ⟨by kernel_rfl, ?_⟩
              exact wp_load_add _ _ rfl (ad.add (j * 6)) rfl x.1.cells _ (fun jj v hv => hf.cellSome (HC.out jj v (by rw [entC, List.getElem?_append_left (List.getElem?_eq_some_iff.1 hv).1]; exact hv)) (fun x => x)) Tryd.underlying40 rfl infoN ⟨_, rfl, Fr.refl _ _, rfl, trivial⟩
            · have h9 : u 9 = _ := hR 9 (by kernel_rfl)
              have h14 : u 14 = _ := hR 14 (by kernel_rfl)
              have h4 : u 4 = _ := hR 4 (by kernel_rfl)
              clear hR k1 k0 kM
              simp only [h9, h14, h4]
              refine .inl ⟨by kernel_rfl, ?_⟩
              exact wp_binAgg _ _ _ _ _ rfl _ _ rfl rfl Tryd.eqGuardType40 _ (neqN_same x.1 _) ⟨_, rfl, Fr.refl _ _, rfl, trivial⟩
            · have h4 : u 4 = _ := hR 4 (by kernel_rfl)
              have h15 : u 15 = _ := hR 15 (by kernel_rfl)
              clear hR k1 k0 kM
              simp only [h4, h15]
              refine .inl ⟨by kernel_rfl, ?_⟩
              go_simp
              exact ⟨_, rfl, Fr.refl _ _, rfl, trivial⟩
          · intro u w' hf hR kM
            have k16 : u 16 = _ := hR 16 (by omega)
            clear hR kM
            simp only [List.take_succ_cons, List.take_zero, List.map_cons, List.map_nil, puts, Act.put, List.setIfInBounds_toArray, List.set_cons_zero, List.set_cons_succ, List.drop_succ_cons, List.drop_zero, Nat.reduceAdd, Nat.zero_add, k16]
            have FX := Lib.hid (FR.out.trans hf)
            clear hf k16
            go_wp2
            go_roundw
            case rel =>
              refine ⟨j + 1, by have := HNN.out; omega, by go_num, ?_, FX.out⟩
              rw [HNX.out, HIS.out]
              first | rfl | (simp only [if_true]; go_num)
            case measure => simp [intOf]; omega
        · have t1 : (x.1.kind != kind) = true := by simpa using hk
          have HIS : Hid (isK kind x = false) := by simp only [Hid, isK]; exact beq_eq_false_iff_ne.2 hk
          clear hk
          go_wp2
          go_roundw
          case rel =>
            refine ⟨j + 1, by have := HNN.out; omega, by go_num, ?_, FR.out⟩
            rw [HNX.out, HIS.out]
            rfl
          case measure => simp [intOf]; omega
      · obtain rfl : j = NN := by omega
        have t0 : decide ((j : Int) < (j : Int)) = false := decide_eq_false (by omega)
        rw [HM.out]
        go_wp2
        go_ret
        exact ⟨rfl, F7.out.trans FR.out⟩
end Go.Proofs.YtpnchdgplpdefaaDoor
