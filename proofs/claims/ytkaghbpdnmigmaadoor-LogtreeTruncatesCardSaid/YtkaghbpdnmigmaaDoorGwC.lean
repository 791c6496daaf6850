/- Several texts in one. -/
import Derived.Test.YtkaghbpdnmigmaaDoorGwA
import Derived.ArgAppend
import Derived.Lib.ConvBytes
import Derived.WalkKit
import Derived.Lib.AppendStr
/- A row of bytes of one's own that may have come from a conversion: it reads as a list, and append makes it longer. -/
namespace Go.Proofs.YtkaghbpdnmigmaaDoor
open Go.RowKit

def txL (s : ByteArray) : List UInt8 := s.data.toList
theorem txL_length (s : ByteArray) : (txL s).length = s.size := by simp [txL]

structure BGrew (W w : World) (v : Value) (l : List UInt8) : Prop where
  fr : Fr Nothing W w
  row : ∃ g cap, v = .slice (some ⟨g, 0, none⟩) l.length cap ∧ W.heap.size ≤ g ∧ g < w.heap.size ∧ l.length ≤ cap ∧ cap ≤ maxLen ∧ (∀ j, j < cap → (w.cell? ⟨g, j, none⟩).isSome = true) ∧
    (∀ j, j < cap → w.frozen? ⟨g, j, none⟩ = false) ∧ (∀ j u, (l.map bvI)[j]? = some u → w.cell? ⟨g, j, none⟩ = some u)

theorem info_u8' : (Tryd.prog.info? 5).map (fun i => (i.zero, i.size, i.bytes)) = some (some (.int .u8 0), 1, 1) := by kernel_rfl

theorem BGrew.conv (w : World) (s : ByteArray) (hs : s.size ≤ 1099511627776) : ∃ v w1, (convert 9 79 (.string s)).run Tryd.prog w = .ok v w1 ∧ BGrew w w1 v (txL s) := by
  have hge := grownCap_ge w s.size 0 5
  have hsz : (Lib.bytesCells w 5 s).size = grownCap w s.size 0 5 := by
    simp only [Lib.bytesCells, Array.size_append, Array.size_map, Array.size_replicate]
    show s.size + _ = _
    omega
  refine ⟨_, _, Lib.run_convert_string_bytes w 9 79 5 s Tryd.underlying9 Tryd.underlying79 Tryd.underlying5, ⟨rfl, rfl, rfl, by rw [Lib.bytesWorld_size]; omega, fun k hk _ => Lib.bytesWorld_at_old w _ s k hk⟩, w.heap.size, _, by rw [txL_length], Nat.le_refl _, by rw [Lib.bytesWorld_size]; omega, by rw [txL_length]; exact hge, grownCap_le_maxLen w s.size 0 _ (by simp only [maxLen]; omega), fun j hj => ?_, fun j hj => ?_, fun j u hu => ?_⟩
  · simp only [World.cell?, Lib.bytesWorld_at_new]
    have : j < (Lib.bytesCells w 5 s).size := by omega
    simp [this]
  · simp only [World.frozen?, Lib.bytesWorld_at_new, hsz]
    simp
    omega
  · rw [List.getElem?_map] at hu
    cases hj : (txL s)[j]? with
    | none => rw [hj] at hu; cases hu
    | some x =>
      rw [hj] at hu
      simp only [Option.map_some, Option.some.injEq] at hu
      have hjl : j < s.size := by rw [← txL_length]; exact (List.getElem?_eq_some_iff.1 hj).1
      rw [Lib.bytesWorld_cell w _ s j hjl]
      unfold txL at hj
      rw [List.getD_eq_getElem?_getD, hj, ← hu]
      rfl

theorem BGrew.of_own {W w : World} {base : Nat} {v : Value} {l : List UInt8} (h : w.ownsRow base 5 1 v l.length (l.map bvI)) (hb : W.heap.size ≤ base) (hf : Fr Nothing W w) (hn : l ≠ []) : BGrew W w v l := by
  rcases h.2 with ⟨rfl, h0⟩ | ⟨g, cap, cur, rfl, hbg, hg, hnc, hcm, hcs, htake⟩
  · cases l with
    | nil => exact absurd rfl hn
    | cons x r => simp at h0
  · have hlt : g < w.heap.size := by
      rcases Nat.lt_or_ge g w.heap.size with h' | h'
      · exact h'
      · rw [Array.getElem?_eq_none h'] at hg; cases hg
    refine ⟨hf, g, cap, rfl, by omega, hlt, hnc, hcm, fun j hj => ?_, fun j _ => by simp [World.frozen?, hg], fun j u hu => ?_⟩
    · have hj' : j < cur.size := by omega
      simp [World.cell?, hg, hj']
    · have h2 := h.cells (g := g) rfl j u hu
      rw [show (⟨g, 0, none⟩ : Addr).add j = ⟨g, j, none⟩ by unfold Addr.add; split <;> simp_all] at h2
      exact h2

/-- append of some bytes that can be read somewhere. -/
theorem BGrew.app {W w : World} {v : Value} {l x : List UInt8} (h : BGrew W w v l) (ty : TypeId) (a : Addr) (c : Nat) (hx : ∀ j u, (x.map bvI)[j]? = some u → w.cell? (a.add j) = some u) (hl : l.length + x.length ≤ 140737488355328) (hne : x ≠ []) :
    ∃ v' w', (Builtin.append_ #[79, 79] ty #[v, .slice (some a) x.length c]).run Tryd.prog w = .ok v' w' ∧ BGrew W w' v' (l ++ x) := by
  obtain ⟨hf, g, cap, rfl, hWg, hgw, hlc, hcm, hc, hz, hr⟩ := h
  obtain ⟨i, hi, hz0, hz1, hz2⟩ := info_parts info_u8'
  have hone : ∀ u ∈ x.map bvI, u.oneCell' = true := by
    intro u hu
    obtain ⟨b, _, rfl⟩ := List.mem_map.1 hu
    rfl
  by_cases hroom : l.length + x.length ≤ cap
  · have hrun := run_append_room_cells (P := Tryd.prog) w 79 ty 5 i Tryd.underlying79 hi g 0 l.length cap a x.length c (x.map bvI) (by rw [hz1]; simp) hx hone hroom (fun j hj => by
      rw [hz1, Nat.mul_one, Nat.zero_add]; simp at hj; exact hc _ (by omega)) (fun j hj => by rw [hz1, Nat.mul_one, Nat.zero_add]; simp at hj; exact hz _ (by omega))
    rw [hz1, Nat.mul_one, Nat.zero_add] at hrun
    refine ⟨_, _, hrun, ?_⟩
    refine ⟨Fr.setCells (fun hlt => by omega) _ _ _ hf, g, cap, by rw [List.length_append], hWg, ?_, by rw [List.length_append]; exact hroom, hcm, fun j hj => ?_, fun j hj => ?_, fun j u hu => ?_⟩
    · exact Nat.lt_of_lt_of_le hgw (Fr.setCells (T := fun k => k = g) (fun _ => rfl) _ _ _ (Fr.refl _ w)).size
    · exact Lib.isSome_setCells _ _ _ _ _ (hc j hj)
    · rw [World.frozen?_setCells]; exact hz j hj
    · rw [List.map_append, List.getElem?_append] at hu
      by_cases hj : j < (l.map bvI).length
      · rw [if_pos hj] at hu
        rw [World.cell?_setCells_out _ _ _ _ _ (fun _ _ => Or.inl (by simpa using hj))]
        exact hr j u hu
      · rw [if_neg hj] at hu
        have hjl : l.length ≤ j := by simpa using hj
        rw [List.length_map] at hu
        obtain ⟨hlt, hval⟩ := List.getElem?_eq_some_iff.1 hu
        have e := World.cell?_setCells_in g (x.map bvI) l.length w (fun k hk => hc _ (by simp at hk; omega)) (j - l.length) hlt
        rw [show l.length + (j - l.length) = j by omega] at e
        rw [e, hval]
  · obtain ⟨v', w', hrun, hown, hgr⟩ := run_append_arg_grows (P := Tryd.prog) w 79 ty 5 i (.int .u8 0) 1 1 Tryd.underlying79 hi hz0 hz1 hz2 rfl (by omega) ⟨g, 0, none⟩ l.length cap (l.map bvI) (by simp) (fun j u hu => by
      rw [show (⟨g, 0, none⟩ : Addr).add j = ⟨g, j, none⟩ by unfold Addr.add; split <;> simp_all]; exact hr j u hu) a x.length c (x.map bvI) (by simp) hx (by omega) (by simp only [maxLen]; omega) (by omega)
    refine ⟨v', w', hrun, BGrew.of_own (base := w.heap.size) ?_ hf.size (hf.trans ((Fr.grown hgr).mono (fun k _ hk => by cases hk))) (by simp [hne])⟩
    rw [List.length_append, List.map_append]
    exact hown
end Go.Proofs.YtkaghbpdnmigmaaDoor

/- The reference's Join. -/
namespace Go.Proofs.YtkaghbpdnmigmaaDoor
open Go.RowKit

theorem ba_push (l : List UInt8) : ∀ (s : ByteArray), (l.map (fun b : UInt8 => (b.toNat : Int))).foldl (fun r n => r.push (UInt8.ofNat n.toNat)) s = ⟨(s.data.toList ++ l).toArray⟩ := by
  induction l with
  | nil => intro s; simp
  | cons b l ih =>
    intro s
    simp only [List.map_cons, List.foldl_cons]
    rw [ih]
    congr 1
    have e : UInt8.ofNat (Int.toNat (b.toNat : Int)) = b := by simp
    rw [e]
    simp [ByteArray.push]

/-- string(b) of a slice that reads as l. -/
theorem run_str {P : Program} (w : World) (src dst e : TypeId) (hs : P.underlying src = some (.slice e)) (he : P.underlying e = some (.int .u8)) (hd : P.underlying dst = some .string)
    (S : Nat → Prop) (A : Option Addr) (n c : Nat) (l : List UInt8) (hr : Rd w S 1 A n (l.map bvI)) : (convert src dst (.slice A n c)).run P w = .ok (.string ⟨l.toArray⟩) w := by
  rw [run_convert_bytes_string w src dst e A n c hs he hd]
  have hl : l.length = n := by simpa using hr.1
  rcases A with _ | ad
  · have : l = [] := by
      rcases Nat.eq_zero_or_pos n with h | h
      · exact List.eq_nil_of_length_eq_zero (hl.trans h)
      · obtain ⟨ad, e, _⟩ := hr.2 h
        cases e
    subst this
    rfl
  · have hc : ∀ j v, (l.map bvI)[j]? = some v → w.cell? (ad.add j) = some v := by
      intro j v hv
      rcases Nat.eq_zero_or_pos n with h | h
      · have : l = [] := List.eq_nil_of_length_eq_zero (hl.trans h)
        subst this
        simp at hv
      · obtain ⟨ad', e, _, h'⟩ := hr.2 h
        injection e with e
        subst e
        exact h' j v hv
    have h1 := run_loadCells_list (P := P) w ad (l.map bvI) hc
    rw [List.length_map, hl] at h1
    rw [run_bytesToString w ad n c (l.map (fun b : UInt8 => (b.toNat : Int))) (by rw [h1]; simp [bvI, Function.comp_def])]
    rw [ba_push]
    rfl

abbrev GrB (w : World) (v : Value) (w' : World) (v' : Value) (l : List UInt8) : Prop := Grew 5 1 w v w' v' l.length (l.map bvI)
theorem strCells_bvI (s : ByteArray) : Lib.strCells s = (txL s).map bvI := rfl
theorem oneCell_bvI (l : List UInt8) : ∀ u ∈ l.map bvI, u.oneCell' = true := by
  intro u hu
  obtain ⟨b, _, rfl⟩ := List.mem_map.1 hu
  rfl
theorem oct_bvI (n : Nat) : bvI (oct n) = .int .u8 ((n % 256 : Nat) : Int) := by
  unfold bvI oct
  rw [UInt8.toNat_ofNat']

/-- Texts in a slice of strings. -/
def strCell (s : ByteArray) : Value := .string s
def JoinK (tag : UInt8) (ps : List ByteArray) (k : Nat) : List UInt8 := tag :: oct ps.length :: (ps.take k).flatMap fun p => wBytes p.size ++ txL p
theorem JoinK_succ (tag : UInt8) (ps : List ByteArray) (k : Nat) (p : ByteArray) (h : ps[k]? = some p) : JoinK tag ps (k + 1) = JoinK tag ps k ++ wBytes p.size ++ txL p := by
  unfold JoinK
  rw [List.take_add_one, h]
  simp [List.flatMap_append]
theorem JoinK_all (tag : UInt8) (ps : List ByteArray) (k : Nat) (h : ps.length ≤ k) : JoinK tag ps k = joinL tag (ps.map txL) := by
  unfold JoinK joinL
  rw [List.take_of_length_le h, List.length_map]
  congr 2
  rw [List.flatMap_map]
  congr 1

def Joined (w : World) (s : ByteArray) (e : Ending) (w' : World) : Prop := e = .returned (.tuple #[.string s, .int .i64 0]) ∧ Fr Nothing w w'

theorem four_list (n : Nat) (h : n < 4294967296) : [Value.int .u8 ((n : Int) / 16777216), .int .u8 ((n : Int) / 65536 % 256), .int .u8 ((n : Int) / 256 % 256), .int .u8 ((n : Int) % 256)] = (wBytes n).map bvI := by
  unfold wBytes
  simp only [List.map_cons, List.map_nil, oct_bvI]
  rw [show ((n / 16777216 % 256 : Nat) : Int) = (n : Int) / 16777216 by omega, show ((n / 65536 % 256 : Nat) : Int) = (n : Int) / 65536 % 256 by omega, show ((n / 256 % 256 : Nat) : Int) = (n : Int) / 256 % 256 by omega, show ((n % 256 : Nat) : Int) = (n : Int) % 256 by omega]

set_option maxRecDepth 100000 in
set_option maxHeartbeats 1000000 in
theorem refJoin_any (tag : UInt8) (ps : List ByteArray) (A : Option Addr) (n c : Nat) (S : Nat → Prop) (w : World) (hR : Rd w S 1 A n (ps.map strCell)) (hn : n ≤ 255) (hL : ∀ k, (JoinK tag ps k).length ≤ 1099511627776) (h4 : ∀ p ∈ ps, p.size < 4294967296) :
    Calls Tryd.prog 73 #[bvI tag, .slice A n c] w (Joined w ⟨(joinL tag (ps.map txL)).toArray⟩) := by
  obtain ⟨i0, hi, hz0, hz1, hz2⟩ := info_parts info_u8'
  have HR := Lib.hid hR
  have HPL : Hid (ps.length = n) := by have := hR.1; simpa [Hid] using this
  have HL := Lib.hid hL
  have H4 := Lib.hid h4
  have HJ : Hid (joinL tag (ps.map txL) = JoinK tag ps n) := (JoinK_all tag ps n (by rw [HPL.out]; exact Nat.le_refl _)).symm
  generalize hRS : (⟨(joinL tag (ps.map txL)).toArray⟩ : ByteArray) = RS at *
  have HRS := Lib.hid hRS
  clear hRS
  clear hR hL h4
  unfold bvI
  have hd : decide ((255 : Int) < (n : Int)) = false := decide_eq_false (by omega)
  go_enter Tryd.func73, Tryd.ntmps73
  go_wp2
  have G0 : Hid (GrB w (.slice none 0 0) (w.alloc (.cells #[.int .u8 (tag.toNat : Int), .int .u8 (n : Int)] 5)) (.slice (some ⟨w.heap.size, 0, none⟩) 2 2) (JoinK tag ps 0)) := by
    have e : (JoinK tag ps 0).map bvI = #[Value.int .u8 (tag.toNat : Int), .int .u8 (n : Int)].toList := by
      show [bvI tag, bvI (oct ps.length)] = _
      rw [oct_bvI, HPL.out, Nat.mod_eq_of_lt (by omega)]
      rfl
    have hl := World.ownsRow_lit (base := 0) (size := 1) (e := 5) w #[Value.int .u8 (tag.toNat : Int), .int .u8 (n : Int)] 2 (Nat.zero_le _) (by simp [maxLen]) rfl
    refine ⟨?_, (Fr.refl _ _).alloc _, fun k hk => .inr ?_⟩
    · rw [e]; exact hl
    · simp [Value.ownBlock] at hk; omega
  go_loopw [6, 7] (fun v i wr => ∃ k : Nat, k ≤ n ∧ i = .int .i64 k ∧ GrB w (.slice none 0 0) wr v (JoinK tag ps k)) (fun _ i _ => n - (intOf i).toNat)
  case atStart => exact ⟨0, by omega, rfl, G0.out⟩
  case round =>
    obtain ⟨k, hk, rfl, hg⟩ := hrel
    have KG := Lib.hid hg
    obtain ⟨A1, n1, c1, rfl, Hn1, _⟩ := own_slice hg.own
    clear hg G0
    by_cases hlt : k < n
    · obtain ⟨ad, u, rfl, _, hu, hcw⟩ := HR.out.at_ hlt
      obtain ⟨p, hp, rfl⟩ : ∃ p, ps[k]? = some p ∧ u = strCell p := by
        rw [List.getElem?_map] at hu
        cases h : ps[k]? with
        | none => rw [h] at hu; cases hu
        | some p => rw [h] at hu; exact ⟨p, rfl, (Option.some.inj hu).symm⟩
      have HS := Lib.hid (JoinK_succ tag ps k p hp)
      have hp4 : p.size < 4294967296 := H4.out p (List.mem_of_getElem? hp)
      have HLk := Lib.hid (HL.out k)
      have HLk1 : Hid ((JoinK tag ps k).length + 4 + p.size ≤ 1099511627776) := by
        have h := HL.out (k + 1)
        rw [HS.out, List.length_append, List.length_append, txL_length] at h
        simp only [Hid]
        have : (wBytes p.size).length = 4 := rfl
        omega
      unfold strCell at hcw
      have hcell := KG.out.fr0.cellSome hcw (fun x => x)
      clear hu hp
      have hkI : (k : Int) < (n : Int) := by omega
      go_wp2_with (at_builtin; refine wpList_app1 _ rfl _ _ 79 rfl 5 i0 _ 1 1 Tryd.underlying79 hi hz0 hz1 hz2 rfl (by omega) _ _ _ rfl KG.out.own 4 _ _ rfl rfl rfl ?c1 ?c2 (by omega) ?_)
      case c1 => simp [Value.oneCell']
      case c2 => have := HLk1.out; omega
      intro v2 w2 hg2
      have G2 : Hid (GrB w (.slice none 0 0) w2 v2 (JoinK tag ps k ++ wBytes p.size)) := by
        have h := KG.out.trans hg2
        rw [four_list p.size hp4] at h
        simpa [Hid, GrB, wBytes] using h
      obtain ⟨A2, n2, c2, rfl, Hn2, _⟩ := own_slice G2.out.own
      have hcell2 := G2.out.fr0.cellSome hcw (fun x => x)
      clear hg2 hcell KG
      go_wp2_with (at_builtin; refine wpList_app_string _ rfl _ _ 79 9 rfl 5 i0 Tryd.underlying79 Tryd.underlying9 hi hz0 hz1 hz2 _ _ _ rfl G2.out.own p rfl ?c3 ?_)
      case c3 =>
        have := HLk1.out
        have e4 : (wBytes p.size).length = 4 := rfl
        rw [List.length_append]; omega
      intro v3 w3 hg3
      have G3 : Hid (GrB w (.slice none 0 0) w3 v3 (JoinK tag ps (k + 1))) := by
        have h := G2.out.trans hg3
        rw [strCells_bvI] at h
        simp only [Hid]
        rw [HS.out]
        simpa [GrB, txL_length, Nat.add_assoc] using h
      clear hg3 G2
      go_wp2
      go_roundw
      case rel => exact ⟨k + 1, by omega, by go_num, G3.out⟩
      case measure => simp [intOf]; omega
    · have hdk : decide ((k : Int) < (n : Int)) = false := decide_eq_false (by omega)
      have hdn : decide (k < n) = false := decide_eq_false (by omega)
      rw [show k = n by omega] at KG
      have hrd : Rd wr (Rows1 (.slice A1 n1 c1)) 1 A1 n1 ((JoinK tag ps n).map bvI) := by
        have h := KG.out.own
        have e : n1 = (JoinK tag ps n).length := by have := Hn1.out; rw [show k = n by omega] at this; exact this
        rw [← e] at h
        exact Rd.of_own h
      have hcv := run_str (P := Tryd.prog) wr 79 9 5 Tryd.underlying79 Tryd.underlying5 Tryd.underlying9 _ A1 n1 c1 _ hrd
      rw [← HJ.out, HRS.out] at hcv
      clear hrd
      go_wp2
      go_ret2
      exact ⟨rfl, KG.out.fr0⟩
end Go.Proofs.YtkaghbpdnmigmaaDoor

/- sha256.Join. -/
namespace Go.Proofs.YtkaghbpdnmigmaaDoor
open Go.RowKit

theorem JoinK_len (tag : UInt8) (ps : List ByteArray) (k : Nat) (p : ByteArray) (h : ps[k]? = some p) : (JoinK tag ps (k + 1)).length = (JoinK tag ps k).length + (4 + p.size) := by
  rw [JoinK_succ tag ps k p h, List.length_append, List.length_append, txL_length]
  have : (wBytes p.size).length = 4 := rfl
  omega

set_option maxRecDepth 100000 in
set_option maxHeartbeats 1000000 in
theorem Join_any (tag : UInt8) (ps : List ByteArray) (A : Option Addr) (n c : Nat) (S : Nat → Prop) (w : World) (hR : Rd w S 1 A n (ps.map strCell)) (hn : n ≤ 255) (hL : ∀ k, (JoinK tag ps k).length ≤ 1099511627776) (h4 : ∀ p ∈ ps, p.size < 4294967296) :
    Calls Tryd.prog 70 #[bvI tag, .slice A n c] w (Joined w ⟨(joinL tag (ps.map txL)).toArray⟩) := by
  obtain ⟨i0, hi, hz0, hz1, hz2⟩ := info_parts info_u8'
  have HR := Lib.hid hR
  have HPL : Hid (ps.length = n) := by have := hR.1; simpa [Hid] using this
  have HL := Lib.hid hL
  have H4 := Lib.hid h4
  have HJ : Hid (joinL tag (ps.map txL) = JoinK tag ps n) := (JoinK_all tag ps n (by rw [HPL.out]; exact Nat.le_refl _)).symm
  generalize hRS : (⟨(joinL tag (ps.map txL)).toArray⟩ : ByteArray) = RS at *
  have HRS := Lib.hid hRS
  clear hRS
  clear hR hL h4
  unfold bvI
  have hd : decide ((255 : Int) < (n : Int)) = false := decide_eq_false (by omega)
  go_enter Tryd.func70, Tryd.ntmps70
  go_wp2
  go_loopw [18, 6] (fun i sz wr => ∃ k : Nat, k ≤ n ∧ i = .int .i64 k ∧ sz = .int .i64 ((JoinK tag ps k).length : Nat) ∧ wr = w) (fun i _ _ => n - (intOf i).toNat)
  case atStart => exact ⟨0, by omega, rfl, rfl, rfl⟩
  case round =>
    obtain ⟨k, hk, rfl, rfl, rfl⟩ := hrel
    by_cases hlt : k < n
    · obtain ⟨ad, u, rfl, _, hu, hcell⟩ := HR.out.at_ hlt
      obtain ⟨p, hp, rfl⟩ : ∃ p, ps[k]? = some p ∧ u = strCell p := by
        rw [List.getElem?_map] at hu
        cases h : ps[k]? with
        | none => rw [h] at hu; cases hu
        | some p => rw [h] at hu; exact ⟨p, rfl, (Option.some.inj hu).symm⟩
      have HS := Lib.hid (JoinK_len tag ps k p hp)
      have hb := HL.out (k + 1)
      rw [HS.out] at hb
      unfold strCell at hcell
      clear hu hp
      have hkI : (k : Int) < (n : Int) := by omega
      generalize (JoinK tag ps k).length = L at *
      go_wp2
      go_roundw
      case rel => exact ⟨k + 1, by omega, by go_num, by rw [HS.out]; go_num, by first | rfl | trivial⟩
      case measure => simp [intOf]; omega
    · have hdk : decide ((k : Int) < (n : Int)) = false := decide_eq_false (by omega)
      have hdn : decide (k < n) = false := decide_eq_false (by omega)
      have hb := HL.out k
      obtain ⟨Z, hZ⟩ : ∃ Z, Z = (JoinK tag ps k).length := ⟨_, rfl⟩
      rw [← hZ] at hb ⊢
      clear hZ hk hlt
      go_wp2_with (at_make; refine wpList_make_own _ rfl _ _ 79 rfl 0 5 i0 (.int .u8 0) 1 Tryd.underlying79 hi hz0 hz1 _ _ _ Z rfl rfl ?c0 ?c1 ?c2 (Nat.zero_le _) ?_)
      case c0 => rfl
      case c1 => rw [hz2]; omega
      case c2 => unfold maxLen; omega
      intro w1 hown hgr
      have F1 : Hid (Fr Nothing wr w1) := (Fr.grown hgr).mono (fun k _ hk => by cases hk)
      have H1 := Lib.hid hown
      clear hown hgr
      go_wp2_with (at_builtin; refine wpList_app1 _ rfl _ _ 79 rfl 5 i0 _ 1 1 Tryd.underlying79 hi hz0 hz1 hz2 rfl (by omega) _ _ _ rfl H1.out 2 _ _ rfl rfl rfl ?e1 ?e2 (by omega) ?_)
      case e1 => simp [Value.oneCell']
      case e2 => omega
      intro v2 w2 hg2
      have G0 : Hid (GrB wr (.slice none 0 0) w2 v2 (JoinK tag ps 0)) := by
        have e : (JoinK tag ps 0).map bvI = [Value.int .u8 (tag.toNat : Int), .int .u8 (n : Int)] := by
          show [bvI tag, bvI (oct ps.length)] = _
          rw [oct_bvI, HPL.out, Nat.mod_eq_of_lt (by omega)]
          rfl
        have h := Grew.fresh F1.out (fun k hk => by simp [Value.ownBlock] at hk; omega) hg2
        simp only [Hid, GrB]
        rw [e]
        simpa [JoinK] using h
      clear hg2 H1 F1
      obtain ⟨w, hw⟩ : ∃ x, x = wr := ⟨_, rfl⟩
      subst hw
      clear hdk hdn hb
      go_wp2
      go_loopw [9, 39] (fun v i wr => ∃ k : Nat, k ≤ n ∧ i = .int .i64 k ∧ GrB w (.slice none 0 0) wr v (JoinK tag ps k)) (fun _ i _ => n - (intOf i).toNat)
      case atStart => exact ⟨0, by omega, rfl, G0.out⟩
      case round =>
        obtain ⟨k, hk, rfl, hg⟩ := hrel
        have KG := Lib.hid hg
        obtain ⟨A1, n1, c1, rfl, Hn1, _⟩ := own_slice hg.own
        clear hg G0
        by_cases hlt : k < n
        · obtain ⟨ad, u, rfl, _, hu, hcw⟩ := HR.out.at_ hlt
          obtain ⟨p, hp, rfl⟩ : ∃ p, ps[k]? = some p ∧ u = strCell p := by
            rw [List.getElem?_map] at hu
            cases h : ps[k]? with
            | none => rw [h] at hu; cases hu
            | some p => rw [h] at hu; exact ⟨p, rfl, (Option.some.inj hu).symm⟩
          have HS := Lib.hid (JoinK_succ tag ps k p hp)
          have hp4 : p.size < 4294967296 := H4.out p (List.mem_of_getElem? hp)
          have HLk := Lib.hid (HL.out k)
          have HLk1 : Hid ((JoinK tag ps k).length + 4 + p.size ≤ 1099511627776) := by
            have h := HL.out (k + 1)
            rw [HS.out, List.length_append, List.length_append, txL_length] at h
            simp only [Hid]
            have : (wBytes p.size).length = 4 := rfl
            omega
          unfold strCell at hcw
          have hcell := KG.out.fr0.cellSome hcw (fun x => x)
          clear hu hp
          have hkI : (k : Int) < (n : Int) := by omega
          go_wp2_with (at_builtin; refine wpList_app1 _ rfl _ _ 79 rfl 5 i0 _ 1 1 Tryd.underlying79 hi hz0 hz1 hz2 rfl (by omega) _ _ _ rfl KG.out.own 4 _ _ rfl rfl rfl ?f1 ?f2 (by omega) ?_)
          case f1 => simp [Value.oneCell']
          case f2 => have := HLk1.out; omega
          intro v2 w2 hg2
          have G2 : Hid (GrB w (.slice none 0 0) w2 v2 (JoinK tag ps k ++ wBytes p.size)) := by
            have h := KG.out.trans hg2
            rw [four_list p.size hp4] at h
            simpa [Hid, GrB, wBytes] using h
          obtain ⟨A2, n2, c2, rfl, Hn2, _⟩ := own_slice G2.out.own
          have hcell2 := G2.out.fr0.cellSome hcw (fun x => x)
          clear hg2 hcell KG
          go_wp2_with (at_builtin; refine wpList_app_string _ rfl _ _ 79 9 rfl 5 i0 Tryd.underlying79 Tryd.underlying9 hi hz0 hz1 hz2 _ _ _ rfl G2.out.own p rfl ?f3 ?_)
          case f3 =>
            have := HLk1.out
            have e4 : (wBytes p.size).length = 4 := rfl
            rw [List.length_append]; omega
          intro v3 w3 hg3
          have G3 : Hid (GrB w (.slice none 0 0) w3 v3 (JoinK tag ps (k + 1))) := by
            have h := G2.out.trans hg3
            rw [strCells_bvI] at h
            simp only [Hid]
            rw [HS.out]
            simpa [GrB, txL_length, Nat.add_assoc] using h
          clear hg3 G2
          go_wp2
          go_roundw
          case rel => exact ⟨k + 1, by omega, by go_num, G3.out⟩
          case measure => simp [intOf]; omega
        · have hdk : decide ((k : Int) < (n : Int)) = false := decide_eq_false (by omega)
          have hdn : decide (k < n) = false := decide_eq_false (by omega)
          rw [show k = n by omega] at KG
          have hrd : Rd wr (Rows1 (.slice A1 n1 c1)) 1 A1 n1 ((JoinK tag ps n).map bvI) := by
            have h := KG.out.own
            have e : n1 = (JoinK tag ps n).length := by have := Hn1.out; rw [show k = n by omega] at this; exact this
            rw [← e] at h
            exact Rd.of_own h
          have hcv := run_str (P := Tryd.prog) wr 79 9 5 Tryd.underlying79 Tryd.underlying5 Tryd.underlying9 _ A1 n1 c1 _ hrd
          rw [← HJ.out, HRS.out] at hcv
          clear hrd
          go_wp2
          go_ret2
          exact ⟨rfl, KG.out.fr0⟩
end Go.Proofs.YtkaghbpdnmigmaaDoor
