/- State: the reference's Encode of states, and the digests (written by genScv.py). -/
import Derived.Test.YtpnchdgplpdefaaGreatDoorEnDgE
import Derived.Test.YtpnchdgplpdefaaGreatDoorEnScq
import Derived.Test.YtpnchdgplpdefaaGreatDoorEnSbR
namespace Go.Proofs.YtpnchdgplpdefaaGreatDoor
open Go.RowKit Go.Shelf
theorem ents_small : ∀ (L : List Ent), (∀ x ∈ L, (entB x).length ≤ 500) → (L.flatMap entB).length ≤ 500 * L.length
 | [], _ => by simp
 | x :: L, h => by
  have h1 := h x (by simp)
  have h2 := ents_small L (fun y hy => h y (by simp [hy]))
  simp only [List.flatMap_cons, List.length_append, List.length_cons]
  omega
theorem GoodK.ent {k : Nat} {L : List Ent} (h : GoodK k L) : ∀ x ∈ L, (entB x).length ≤ 500 := fun x hx => by
 have h1 := h.owner x hx
 have h2 := h.text x hx
 have h3 := h.value x hx
 have h4 := nameL_length x.1
 have h5 := enc_length (nameL x.1).length
 have h6 := enc_length (strL x.2).length
 have h7 := strL_length x.2
 simp only [entB, textB, List.length_append]
 omega
theorem GoodK.enc_len {k : Nat} {L : List Ent} (h : GoodK k L) : (encS L).length ≤ 10 + 500 * L.length ∧ 1 ≤ (encS L).length := by
 have h1 := ents_small L h.ent
 have h2 := enc_length L.length
 have h3 := encF_ne 9 L.length
 simp only [encS, List.length_append]
 refine ⟨by omega, ?_⟩
 show 1 ≤ (encF 9 L.length).length + _
 omega
theorem strL_of (l : List UInt8) : strL ⟨l.toArray⟩ = l := rfl
theorem take_ents {L : List Ent} {k : Nat} {x : Ent} (h : L[k]? = some x) : (L.take (k + 1)).flatMap entB = (L.take k).flatMap entB ++ entB x := by
 rw [List.take_add_one, h, Option.toList_some, List.flatMap_append, List.flatMap_singleton]
set_option maxRecDepth 100000 in
set_option maxHeartbeats 4000000 in
theorem rSEnc_any (L : List Ent) (A : Option Addr) (n c : Nat) (S : Nat → Prop) (w : World) (hR : EL w S A n L) (hK : GoodK 24 L) :
    Calls Tryz.prog 8 #[.slice A n c] w (Encoded w (encS L)) := by
  obtain ⟨i0, hi, hz0, hz1, hz2⟩ := info_parts info_u8
  have hn : n ≤ 24 := by have := hR.len; have := hK.len; omega
  have HR := Lib.hid hR
  have HK := Lib.hid hK
  have HN : Hid (L.length = n) := hR.len
  have wn : IntKind.u64.wrap (n : Int) = (n : Int) := IntWalk.u64_in _ (by omega)
  have CN : Hid (∀ (x : Ent) (w' : World), x ∈ L → Calls Tryz.prog 35 #[.agg x.1.cells.toArray] w' (Same' w' (.tuple #[.string ⟨(nameL x.1).toArray⟩, .int .i64 0]))) := fun x w' hx => by
    refine (rNEnc_any x.1 w' (by have := hK.owner x hx; omega) (by have := hK.text x hx; omega)).mono ?_
    rintro e w'' ⟨s, q, rfl, hf, h⟩
    rcases h with ⟨_, rfl, rfl⟩ | ⟨h, _⟩
    · exact ⟨rfl, hf⟩
    · rw [hK.ok x hx] at h; cases h
  clear hR hK
  go_enter Tryz.func8, Tryz.ntmps8
  go_wp2_with fail
  refine (Natural_any n _ (by omega)).mono ?_
  rintro e w1 ⟨v0, rfl, hg⟩
  have HL0 : Hid (∃ k : Nat, k ≤ n ∧ (Value.int .i64 0) = .int .i64 (k : Int) ∧ GrewB w (.slice none 0 0) w1 v0 (enc n ++ (L.take k).flatMap entB)) := ⟨0, by omega, rfl, by simpa using hg⟩
  clear hg wn
  go_wp2
  go_loopw [3, 4] (fun o i wr => ∃ k : Nat, k ≤ n ∧ i = .int .i64 (k : Int) ∧ GrewB w (.slice none 0 0) wr o (enc n ++ (L.take k).flatMap entB)) (fun _ i _ => n - (intOf i).toNat)
  case atStart => exact HL0.out
  case round =>
    obtain ⟨k, hk, rfl, hG⟩ := hrel
    obtain ⟨l0, hl0⟩ : ∃ l0, enc n ++ (L.take k).flatMap entB = l0 := ⟨_, rfl⟩
    rw [hl0] at hG
    have HL0' := Lib.hid hl0
    have KG := Lib.hid hG
    have HLN : Hid (l0.length ≤ 20000) := by
      rw [Hid, ← hl0]
      have h1 := enc_length n
      have h2 := ents_small (L.take k) (fun x hx => HK.out.ent x (List.mem_of_mem_take hx))
      rw [List.length_take] at h2
      simp only [List.length_append]
      omega
    clear hG HL0 hl0
    by_cases hlt : k < n
    · have t0 : decide ((k : Int) < (n : Int)) = true := decide_eq_true (by omega)
      have ik : (k : Int) < (n : Int) := by omega
      have ik0 : (0 : Int) ≤ (k : Int) := by omega
      obtain ⟨ad, x, rfl, hx, hcx⟩ := (HR.out.fr0 KG.out.fr0).at_ hlt
      have GX := Lib.hid hx
      have HX := Lib.hid hcx
      have HXM : Hid (x ∈ L) := List.mem_of_getElem? hx
      have HEN := Lib.hid (HK.out.ent x HXM.out)
      have HVS : Hid (x.2.size ≤ 200) := HK.out.value x HXM.out
      clear hx hcx
      go_wp2_with (refine wpList_load_add rfl 57 (.tmp 21) rfl (ad.add (k * 6)) rfl x.1.cells _ ?hcc1 Tryz.underlying57 rfl infoN (Held.go ?hold1))
      case hcc1 => exact fun jj v hv => HX.out jj v (by rw [entC, List.getElem?_append_left (List.getElem?_eq_some_iff.1 hv).1]; exact hv)
      unfold Held
      go_wp2_with fail
      refine (CN.out x _ HXM.out).mono ?_
      rintro e w2 ⟨rfl, f2⟩
      have KG2 := Lib.hid (KG.out.behind f2)
      have HV : Hid (w2.cell? { block := (ad.add (k * 6)).block, off := (ad.add (k * 6)).off + 5 } = some (.string x.2)) := f2.cellSome (HX.out 5 _ rfl) (fun x => x)
      clear f2 KG HX
      go_wp2_with fail
      refine (refText_any ⟨(nameL x.1).toArray⟩ _ (by have := HEN.out; have e : (⟨(nameL x.1).toArray⟩ : ByteArray).size = (nameL x.1).length := by simp [ByteArray.size]
                                                      rw [e]; simp only [entB, textB, List.length_append] at this; omega)).mono ?_
      rintro e w3 ⟨v3, rfl, hg3⟩
      obtain ⟨A4, n4, c4, rfl, H4, _⟩ := own_slice hg3.own
      have HG3 := Lib.hid hg3
      have E3 : Hid (textL ⟨(nameL x.1).toArray⟩ = textB (nameL x.1)) := by simp [Hid, textL, textB, strL_of, ByteArray.size]
      rw [E3.out] at HG3 H4
      have HTL : Hid ((textB (nameL x.1)).length ≤ 500) := by have := HEN.out; simp only [entB, List.length_append] at this; simp only [Hid]; omega
      obtain rfl := H4.out
      clear hg3 H4
      go_wp2_with (at_builtin; refine wpList_app _ rfl _ _ 28 rfl 5 i0 _ 1 1 Tryz.underlying28 hi hz0 hz1 hz2 rfl (by omega) _ _ _ rfl (own_fr KG2.out.own HG3.out.fr0 (fun _ _ x => x)) _ A4 _ c4 _ rfl (OwnB.rd HG3.out.own rfl) (oneCell_bv _) ?hb1 (by omega) ?_)
      case hb1 => have := HLN.out; have := HTL.out; omega
      intro v5 w5 hg5
      obtain ⟨l1, hl1⟩ : ∃ l1, l0 ++ textB (nameL x.1) = l1 := ⟨_, rfl⟩
      have KG5 : Hid (GrewB w (.slice none 0 0) w5 v5 l1) := by rw [Hid, ← hl1]; exact GrewB.app (KG2.out.behind HG3.out.fr0) hg5 rfl
      have HLN1 : Hid (l1.length ≤ 20500) := by rw [Hid, ← hl1, List.length_append]; have := HLN.out; have := HTL.out; omega
      have HL1 := Lib.hid hl1
      clear hl1
      have HV5 : Hid (w5.cell? { block := (ad.add (k * 6)).block, off := (ad.add (k * 6)).off + 5 } = some (.string x.2)) := by
        have hel := (HR.out.fr0 KG5.out.fr0).at_ hlt
        obtain ⟨ad', x', e1, e2, e3⟩ := hel
        cases e1
        rw [GX.out] at e2
        cases e2
        exact e3 5 _ rfl
      clear hg5 KG2 HG3 HV E3
      have HVV := HV5.out
      go_wp2_with fail
      refine (refText_any x.2 _ (by have := HVS.out; omega)).mono ?_
      rintro e w6 ⟨v6, rfl, hg6⟩
      obtain ⟨A6, n6, c6, rfl, H6, _⟩ := own_slice hg6.own
      have HG6 := Lib.hid hg6
      have HT6 : Hid (textL x.2 = textB (strL x.2)) := by simp [Hid, textL, textB, strL_length]
      rw [HT6.out] at HG6 H6
      have HTL6 : Hid ((textB (strL x.2)).length ≤ 500) := by have := HEN.out; simp only [entB, List.length_append] at this; simp only [Hid]; omega
      obtain rfl := H6.out
      clear hg6 H6 HVV HV5
      have KG6 := Lib.hid (own_fr KG5.out.own HG6.out.fr0 (fun _ _ x => x))
      go_wp2_with (at_builtin; refine wpList_app _ rfl _ _ 28 rfl 5 i0 _ 1 1 Tryz.underlying28 hi hz0 hz1 hz2 rfl (by omega) _ _ _ rfl KG6.out _ A6 _ c6 _ rfl (OwnB.rd HG6.out.own rfl) (oneCell_bv _) ?hb2 (by omega) ?_)
      case hb2 => have := HLN1.out; have := HTL6.out; omega
      intro v7 w7 hg7
      have KG7 : Hid (GrewB w (.slice none 0 0) w7 v7 (enc n ++ (L.take (k + 1)).flatMap entB)) := by
        have h := GrewB.app (KG5.out.behind HG6.out.fr0) hg7 rfl
        simp only [Hid]
        rw [take_ents GX.out, entB, ← List.append_assoc, ← List.append_assoc, HL0'.out, HL1.out]
        exact h
      clear hg7 KG5 HG6
      go_wp2
      go_roundw
      case rel => exact ⟨k + 1, by omega, by go_num, KG7.out⟩
      case measure => simp [intOf]; omega
    · have t0 : decide ((k : Int) < (n : Int)) = false := decide_eq_false (by omega)
      have HE : Hid (GrewB w (.slice none 0 0) wr u3 (encS L)) := by
        have h := KG.out
        rw [← HL0'.out, List.take_of_length_le (by rw [HN.out]; omega)] at h
        simp only [Hid]
        rw [encS, HN.out]
        exact h
      go_wp2
      go_ret
      exact ⟨_, rfl, HE.out⟩
def Dg (w : World) (l : List UInt8) (e : Ending) (w' : World) : Prop := Same' w (digV (shaL l)) e w'
theorem txL_mk (l : List UInt8) : txL ⟨l.toArray⟩ = l := rfl
set_option maxRecDepth 100000 in
set_option maxHeartbeats 4000000 in
theorem SDig_any (L : List Ent) (s : Nat) (w : World) (hS : StL w s L) (hU : UsaT w) (hT : ShaTab w) (hK : GoodK 24 L) :
  Calls Tryz.prog 9 #[.pointer (some ⟨s, 0, none⟩)] w (Dg w (encS L)) := by
 have CE : Hid (∀ w', Fr Nothing w w' → Calls Tryz.prog 6 #[.pointer (some ⟨s, 0, none⟩)] w' (Encoded w' (encS L))) := fun w' f => SEnc_any L s w' (hS.fr0 f) (hU.fr0 f) (hK.small (by omega))
 have hl := hK.enc_len
 have hkl := hK.len
 obtain ⟨x, hx⟩ : ∃ x : ByteArray, x = ⟨(encS L).toArray⟩ := ⟨_, rfl⟩
 have hxs : x.size = (encS L).length := by rw [hx]; simp [ByteArray.size]
 have CS : Hid (∀ w', Fr Nothing w w' → Calls Tryz.prog 37 #[.string x] w' (Same' w' (digV (shaL (encS L))))) := fun w' f => by
  have h := Sum_any x w' (hT.fr0 f) (by omega) (by omega)
  rw [hx, txL_mk] at h
  rw [hx]
  exact h
 unfold Dg
 have hs32 := shaL_length (encS L)
 have HX := Lib.hid hx
 generalize encS L = l at *
 unfold digV at *
 generalize shaL l = DL at *
 have HS : Hid ((DL.map bvI).toArray.size = 32 ∧ (DL.map bvI).toArray.all (·.oneCell') = true) := ⟨by simp [hs32], bytes_one DL⟩
 have HI : Hid ((Tryz.prog.info? 34).map (·.size) = some (DL.map bvI).toArray.size) := by
  rw [HS.out.1]
  exact info32
 generalize (DL.map bvI).toArray = RA at *
 clear hS hU hT hK hl hkl hx hxs hs32
 go_enter Tryz.func9, Tryz.ntmps9
 go_wp2_with (refine wpList_allocBlk rfl 34 rfl zero32 zv32 zero32c rfl ?_)
 intro w1 n1
 have N1 := Lib.hid n1
 clear n1
 generalize hg : w.heap.size = g at *
 have HG := Lib.hid hg
 clear hg
 have B1 : Hid (Blk w1 g 34 zero32c) := by have h := N1.out.blk; rw [HG.out] at h; exact h
 go_wp2_with fail
 refine (CE.out _ N1.out.fr).mono ?_
 rintro e w2 ⟨v, rfl, hg2⟩
 obtain ⟨A2, n2, c2, rfl, H2, _⟩ := own_slice hg2.own
 have hcv := run_strT w2 _ _ _ c2 _ (OwnB.rd hg2.own H2.out)
 rw [← HX.out] at hcv
 have F2 := Lib.hid (N1.out.fr.trans hg2.fr0)
 have B2 := Lib.hid (B1.out.fr hg2.fr0 (fun x => x))
 clear hg2 H2 CE B1 N1
 go_wp2_with fail
 refine (CS.out _ F2.out).mono ?_
 rintro e w3 ⟨rfl, f3⟩
 have F3 := Lib.hid (F2.out.trans f3)
 have B3 := Lib.hid (B2.out.fr f3 (fun x => x))
 clear f3 CS F2 B2 hcv
 go_wp2_with (refine wpList_storeBlk rfl 34 (.tmp 2) _ rfl g RA rfl rfl _ _ B3.out HI.out (by rw [HS.out.1]; rfl) HS.out.2 ?_)
 intro wz b5 f5
 have J4 := Lib.hid b5
 have JF : Hid (Fr Nothing w wz) := F3.out.then_ f5 (fun i hi e => by have e' : i = g := e; have := HG.out; omega)
 clear b5 f5
 go_wp2
 exact bodyPost_ret (results_cell_row (fn := Tryz.f9) (p := 2) (ty := 34) Tryz.results9 _ wz _ 34 RA (0, 0) _ rfl J4.out Tryz.underlying34 rfl HI.out) rfl ⟨rfl, JF.out⟩
set_option maxRecDepth 100000 in
set_option maxHeartbeats 4000000 in
theorem rSDig_any (L : List Ent) (A : Option Addr) (n c : Nat) (S : Nat → Prop) (w : World) (hR : EL w S A n L) (hK : GoodK 24 L) :
  Calls Tryz.prog 10 #[.slice A n c] w (Dg w (encS L)) := by
 have CE : Hid (∀ w', Fr Nothing w w' → Calls Tryz.prog 8 #[.slice A n c] w' (Encoded w' (encS L))) := fun w' f => rSEnc_any L A n c S w' (hR.fr0 f) hK
 have hl := hK.enc_len
 have hkl := hK.len
 obtain ⟨x, hx⟩ : ∃ x : ByteArray, x = ⟨(encS L).toArray⟩ := ⟨_, rfl⟩
 have hxs : x.size = (encS L).length := by rw [hx]; simp [ByteArray.size]
 have CS : Hid (∀ w', Calls Tryz.prog 38 #[.string x] w' (Same' w' (digV (shaL (encS L))))) := fun w' => by
  have h := refSum_any x w' (by omega)
  rw [hx, txL_mk] at h
  rw [hx]
  exact h
 unfold Dg
 have hs32 := shaL_length (encS L)
 have HX := Lib.hid hx
 generalize encS L = l at *
 unfold digV at *
 generalize shaL l = DL at *
 have HS : Hid ((DL.map bvI).toArray.size = 32 ∧ (DL.map bvI).toArray.all (·.oneCell') = true) := ⟨by simp [hs32], bytes_one DL⟩
 have HI : Hid ((Tryz.prog.info? 34).map (·.size) = some (DL.map bvI).toArray.size) := by
  rw [HS.out.1]
  exact info32
 generalize (DL.map bvI).toArray = RA at *
 clear hR hK hl hkl hx hxs hs32
 go_enter Tryz.func10, Tryz.ntmps10
 go_wp2_with (refine wpList_allocBlk rfl 34 rfl zero32 zv32 zero32c rfl ?_)
 intro w1 n1
 have N1 := Lib.hid n1
 clear n1
 generalize hg : w.heap.size = g at *
 have HG := Lib.hid hg
 clear hg
 have B1 : Hid (Blk w1 g 34 zero32c) := by have h := N1.out.blk; rw [HG.out] at h; exact h
 go_wp2_with fail
 refine (CE.out _ N1.out.fr).mono ?_
 rintro e w2 ⟨v, rfl, hg2⟩
 obtain ⟨A2, n2, c2, rfl, H2, _⟩ := own_slice hg2.own
 have hcv := run_strT w2 _ _ _ c2 _ (OwnB.rd hg2.own H2.out)
 rw [← HX.out] at hcv
 have F2 := Lib.hid (N1.out.fr.trans hg2.fr0)
 have B2 := Lib.hid (B1.out.fr hg2.fr0 (fun x => x))
 clear hg2 H2 CE B1 N1
 go_wp2_with fail
 refine (CS.out _).mono ?_
 rintro e w3 ⟨rfl, f3⟩
 have F3 := Lib.hid (F2.out.trans f3)
 have B3 := Lib.hid (B2.out.fr f3 (fun x => x))
 clear f3 CS F2 B2 hcv
 go_wp2_with (refine wpList_storeBlk rfl 34 (.tmp 2) _ rfl g RA rfl rfl _ _ B3.out HI.out (by rw [HS.out.1]; rfl) HS.out.2 ?_)
 intro wz b5 f5
 have J4 := Lib.hid b5
 have JF : Hid (Fr Nothing w wz) := F3.out.then_ f5 (fun i hi e => by have e' : i = g := e; have := HG.out; omega)
 clear b5 f5
 go_wp2
 exact bodyPost_ret (results_cell_row (fn := Tryz.f10) (p := 2) (ty := 34) Tryz.results10 _ wz _ 34 RA (0, 0) _ rfl J4.out Tryz.underlying34 rfl HI.out) rfl ⟨rfl, JF.out⟩
end Go.Proofs.YtpnchdgplpdefaaGreatDoor
