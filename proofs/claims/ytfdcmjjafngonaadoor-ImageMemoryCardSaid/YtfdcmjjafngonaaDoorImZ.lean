/- The reference's Bytes of an image (written by genI13.py). -/
import Derived.Test.YtfdcmjjafngonaaDoorImY
namespace Go.Proofs.YtfdcmjjafngonaaDoor
open Go.RowKit

theorem BGrew.made {W w : World} {base g n : Nat} (h : w.ownsRow base 5 1 (.slice (some ⟨g, 0, none⟩) n n) n ((List.replicate n (0 : UInt8)).map bvI)) (hb : W.heap.size ≤ base) (hf : Fr Nothing W w) : BGrew W w (.slice (some ⟨g, 0, none⟩) n n) (List.replicate n 0) := by
  rcases h.2 with ⟨h0, _⟩ | ⟨g', cap, cur, hv, hbg, hg, hnc, hcm, hcs, htake⟩
  · cases h0
  · cases hv
    have hlt : g < w.heap.size := by
      rcases Nat.lt_or_ge g w.heap.size with h' | h'
      · exact h'
      · rw [Array.getElem?_eq_none h'] at hg; cases hg
    refine ⟨hf, g, n, by rw [List.length_replicate], by omega, hlt, by simp, hcm, fun j hj => ?_, fun j _ => by simp [World.frozen?, hg], fun j u hu => ?_⟩
    · have hj' : j < cur.size := by omega
      simp [World.cell?, hg, hj']
    · have h2 := h.cells (g := g) rfl j u hu
      rw [show (⟨g, 0, none⟩ : Addr).add j = ⟨g, j, none⟩ by unfold Addr.add; split <;> simp_all] at h2
      exact h2

theorem set_zero (p : List UInt8) (x : UInt8) (n m k : Nat) (hp : p.length = k) (hm : n = m + 1) : (p ++ List.replicate n 0).set k x = p ++ [x] ++ List.replicate m 0 := by
  subst hp hm
  rw [List.set_append_right _ _ (Nat.le_refl _), Nat.sub_self, List.replicate_succ, List.set_cons_zero, List.append_assoc]
  rfl
theorem strL_get (c : ByteArray) (k : Nat) (hk : k < c.size) : (strL c).take k ++ [c[k]] = (strL c).take (k + 1) := by
  have h : (strL c)[k]? = some c[k] := by
    unfold strL
    rw [List.getElem?_eq_getElem (by simpa using hk)]
    rfl
  rw [List.take_add_one, h]
  rfl

set_option maxRecDepth 100000 in
set_option maxHeartbeats 4000000 in
theorem Bytes_any (c d : ByteArray) (z e : Int) (w : World) (hc : c.size ≤ 1099511627776) (hd : d.size ≤ 1099511627776) (hz : -9223372036854775808 ≤ z ∧ z ≤ 9223372036854775807) (he : -9223372036854775808 ≤ e ∧ e ≤ 9223372036854775807) :
    Calls Tryd.prog 28 #[imgV c d z e] w (SameIn w (.string ⟨(memL (strL c) (strL d) z e).toArray⟩)) := by
  have CE := Lib.hid (fun w => rEnd_any c d z e w hc hd hz he)
  have CD := Lib.hid (fun w => rDataAt_any c d z e w hc hd hz he)
  have hle := endP_le c.size d.size z e
  have CU := Lib.hid (fun w => up_any (endP c.size d.size z e) w (by omega))
  obtain ⟨i0, hi, hz0, hz1, hz2⟩ := info_parts info_u8
  have hn : upN (endP c.size d.size z e) ≤ 5000 := by have := upN_le (endP c.size d.size z e); omega
  by_cases hk : checkI c.size d.size z e = 0
  · have hok := checkI_ok hk
    have he' : endP c.size d.size z e = upN c.size + d.size + z.toNat := by unfold endP; rw [if_pos hk]
    have hd' : dataP c.size d.size z e = upN c.size := by unfold dataP; rw [if_pos hk]
    have u1 := upN_le c.size
    have u2 := upN_le (endP c.size d.size z e)
    have hM : Hid (memL (strL c) (strL d) z e = strL c ++ List.replicate (upN c.size - c.size) 0 ++ strL d ++ List.replicate (upN (endP c.size d.size z e) - (upN c.size + d.size)) 0) := by
      unfold memL
      rw [strL_length, strL_length]
      show (if checkI c.size d.size z e = 0 then _ else _) = _
      rw [if_pos hk]
    rw [hd'] at CD
    generalize endP c.size d.size z e = en at *
    generalize upN c.size = at' at *
    generalize upN en = n at *
    have HN := Lib.hid hn
    have HQ : Hid (c.size ≤ at' ∧ at' + d.size ≤ n ∧ 4 ≤ c.size) := ⟨u1.1, by omega, hok.1⟩
    clear hle hk hok he' hd' u1 u2 hc hd hn hz he
    go_enter Tryd.func28, Tryd.ntmps28
    go_wp2_with (refine wpList_boxBlk rfl 23 (.tmp 0) rfl _ rfl ?_)
    intro w1 n1
    have B1 : Hid (Blk w1 w.heap.size 23 (imgC c d z e)) := n1.blk
    have F1 := Lib.hid n1.fr
    clear n1
    generalize hg : w.heap.size = g at *
    have HG := Lib.hid hg
    clear hg
    obtain ⟨k0, k1, k2, k3⟩ := img_cells B1.out (Fr.refl _ _)
    go_wp2_with fail
    refine (CE.out _).mono ?_
    rintro e' w2 ⟨rfl, f2⟩
    have B2 := Lib.hid (B1.out.fr f2 (fun x => x))
    have F2 := Lib.hid (F1.out.trans f2)
    clear f2 B1 F1 k0 k1 k2 k3
    go_wp2_with fail
    refine (CU.out _).mono ?_
    rintro e' w2' ⟨rfl, rfl⟩
    go_wp2_with (at_make; refine wpList_make_full _ rfl _ _ 42 rfl w2.heap.size 5 i0 (.int .u8 0) 1 Tryd.underlying42 hi hz0 hz1 _ _ _ _ n rfl rfl rfl rfl ?c1 ?c2 (Nat.le_refl _) ?_)
    case c1 => rw [hz2]; have := HN.out; omega
    case c2 => unfold maxLen; have := HN.out; omega
    intro w3 hown hgr
    have HB3 : Hid (BGrew w2 w3 (.slice (some ⟨w2.heap.size, 0, none⟩) n n) (List.replicate n 0)) := by
      refine BGrew.made ?_ (Nat.le_refl _) ((Fr.grown hgr).mono (fun k _ hk => by cases hk))
      rw [List.map_replicate]
      rw [toList_madeCells_one] at hown
      exact hown
    clear hown hgr
    generalize w2.heap.size = gb at *
    have HB0 : Hid (BGrew w2 w3 (.slice (some ⟨gb, 0, none⟩) n n) ((strL c).take 0 ++ List.replicate (n - 0) 0)) := HB3.out
    clear HB3
    have c4 : c.size ≤ 5000 := by have := HQ.out; have := HN.out; omega
    have d4 : d.size ≤ 5000 := by have := HQ.out; have := HN.out; omega
    have n4 : n ≤ 5000 := HN.out
    have a4 : at' ≤ 5000 := by have := HQ.out; have := HN.out; omega
    have n0 : (0 : Int) < (n : Int) := by have := HQ.out; omega
    have n0' : 0 < n := by have := HQ.out; omega
    go_wp2
    go_loopw [4] (fun v wr => ∃ k : Nat, k ≤ c.size ∧ v = .int .i64 k ∧ BGrew w2 wr (.slice (some ⟨gb, 0, none⟩) n n) ((strL c).take k ++ List.replicate (n - k) 0)) (fun v _ => c.size - (intOf v).toNat)
    case atStart => exact ⟨0, Nat.zero_le _, rfl, HB0.out⟩
    case round =>
      obtain ⟨k, hkc, rfl, hB⟩ := hrel
      have HB := Lib.hid hB
      obtain ⟨k0, k1, k2, k3⟩ := img_cells B2.out hB.fr
      clear hB HB0
      by_cases hlt : k < c.size
      · have t1 : k < n := by have := HQ.out; omega
        have t2 : (k : Int) < (n : Int) := by omega
        have t3 : (k : Int) < (c.size : Int) := by omega
        have HX : Hid (((strL c).take k ++ List.replicate (n - k) 0).set k c[k] = (strL c).take (k + 1) ++ List.replicate (n - (k + 1)) 0) := by
          simp only [Hid]
          rw [set_zero _ _ (n - k) (n - (k + 1)) k (by rw [List.length_take, strL_length]; omega) (by omega), strL_get _ _ hlt]
        go_wp2_with (refine wpList_storeB rfl _ _ rfl gb k n n c[k] rfl rfl HB.out (by rw [List.length_append, List.length_take, strL_length, List.length_replicate]; omega) ?_)
        intro w4 hb4
        have HB4 := Lib.hid hb4
        rw [HX.out] at HB4
        clear hb4 HX HB k0 k1 k2 k3
        go_wp2
        exact ⟨⟨k + 1, by omega, by go_num, HB4.out⟩, by simp [intOf]; omega⟩
      · obtain rfl : k = c.size := by omega
        have HB5 : Hid (BGrew w2 wr (.slice (some ⟨gb, 0, none⟩) n n) (strL c ++ List.replicate (at' - c.size) 0 ++ (strL d).take 0 ++ List.replicate (n - (at' + 0)) 0)) := by
          have h := HB.out
          rw [List.take_of_length_le (by rw [strL_length]; exact Nat.le_refl _)] at h
          simp only [Hid]
          have e1 : strL c ++ List.replicate (at' - c.size) 0 ++ (strL d).take 0 ++ List.replicate (n - (at' + 0)) 0 = strL c ++ List.replicate (n - c.size) 0 := by
            rw [List.take_zero, List.append_nil, List.append_assoc, List.replicate_append_replicate]
            congr 2
            have := HQ.out
            omega
          rw [e1]
          exact h
        clear HB hlt hkc
        have t1 : c.size < n ∨ ¬ c.size < n := Nat.lt_or_ge c.size n |>.imp id (by omega)
        rcases t1 with t1 | t1
        all_goals
          go_wp2_with fail
          refine (CD.out _).mono ?_
          rintro e' w5 ⟨rfl, f5⟩
          have HB6 := Lib.hid (HB5.out.behind f5)
          clear f5 HB5 k0 k1 k2 k3 t1
          go_wp2
          go_loopw [6] (fun v wr => ∃ k : Nat, k ≤ d.size ∧ v = .int .i64 k ∧ BGrew w2 wr (.slice (some ⟨gb, 0, none⟩) n n) (strL c ++ List.replicate (at' - c.size) 0 ++ (strL d).take k ++ List.replicate (n - (at' + k)) 0)) (fun v _ => d.size - (intOf v).toNat)
          case atStart => exact ⟨0, Nat.zero_le _, rfl, HB6.out⟩
          case round =>
            obtain ⟨k, hkc, rfl, hB⟩ := hrel
            have HB := Lib.hid hB
            obtain ⟨k0, k1, k2, k3⟩ := img_cells B2.out hB.fr
            clear hB HB6
            by_cases hlt : k < d.size
            · have t3 : (k : Int) < (d.size : Int) := by omega
              obtain ⟨p, hp⟩ : ∃ p : Nat, (at' : Int) + (k : Int) = (p : Int) := ⟨at' + k, by omega⟩
              have hp' : at' + k = p := by omega
              have t1 : p < n := by have := HQ.out; omega
              have t2 : (p : Int) < (n : Int) := by omega
              have HX : Hid ((strL c ++ List.replicate (at' - c.size) 0 ++ (strL d).take k ++ List.replicate (n - (at' + k)) 0).set p d[k] = strL c ++ List.replicate (at' - c.size) 0 ++ (strL d).take (k + 1) ++ List.replicate (n - (at' + (k + 1))) 0) := by
                have := HQ.out
                simp only [Hid]
                rw [set_zero _ _ (n - (at' + k)) (n - (at' + (k + 1))) p (by rw [List.length_append, List.length_append, List.length_take, strL_length, strL_length, List.length_replicate]; omega) (by omega), List.append_assoc _ ((strL d).take k), strL_get _ _ hlt]
              have HP : Hid (at' + k = p) := hp'
              have HLT : Hid (p < (strL c ++ List.replicate (at' - c.size) 0 ++ (strL d).take k ++ List.replicate (n - (at' + k)) 0).length) := by
                have := HQ.out
                simp only [Hid, List.length_append, List.length_take, strL_length, List.length_replicate]
                omega
              clear hp'
              generalize strL c ++ List.replicate (at' - c.size) 0 ++ (strL d).take k ++ List.replicate (n - (at' + k)) 0 = LL at HB HX HLT
              go_wp2_with (refine wpList_storeB rfl _ _ rfl gb p n n d[k] rfl rfl HB.out HLT.out ?_)
              intro w4 hb4
              have HB4 := Lib.hid hb4
              rw [HX.out] at HB4
              clear hb4 HX HB HLT k0 k1 k2 k3
              go_wp2
              exact ⟨⟨k + 1, by omega, by go_num, HB4.out⟩, by simp [intOf]; omega⟩
            · obtain rfl : k = d.size := by omega
              have t3 : ¬ ((d.size : Int) < (d.size : Int)) := by omega
              have hcv : (convert 42 9 (.slice (some ⟨gb, 0, none⟩) n n)).run Tryd.prog wr = .ok (.string ⟨(memL (strL c) (strL d) z e).toArray⟩) wr := by
                have h := HB.out
                rw [List.take_of_length_le (by rw [strL_length]; exact Nat.le_refl _), ← hM.out] at h
                obtain ⟨g', c', hv, hR⟩ := h.slice
                cases hv
                exact run_str wr 42 9 5 Tryd.underlying42 Tryd.underlying5 Tryd.underlying9 _ _ _ _ _ hR
              have FE := Lib.hid (F2.out.trans HB.out.fr)
              generalize (⟨(memL (strL c) (strL d) z e).toArray⟩ : ByteArray) = MM at *
              clear HB hM
              go_wp2
              go_ret
              exact ⟨rfl, FE.out⟩
  · have he' : endP c.size d.size z e = 0 := by unfold endP; rw [if_neg hk]
    have hd' : dataP c.size d.size z e = 0 := by unfold dataP; rw [if_neg hk]
    have hM : memL (strL c) (strL d) z e = [] := by
      unfold memL
      rw [if_neg (by rw [strL_length, strL_length]; exact hk)]
    rw [hd'] at CD
    rw [he'] at CE CU
    rw [hM]
    obtain ⟨n, hn0⟩ : ∃ n : Nat, n = upN 0 := ⟨_, rfl⟩
    rw [← hn0] at CU
    have HN : Hid (n ≤ 5000) := by simp only [Hid]; rw [hn0]; decide
    have HZ : Hid (n = 0) := by simp only [Hid]; rw [hn0]; rfl
    clear hle hk hn0 he' hd' hc hd hn hz he hM
    go_enter Tryd.func28, Tryd.ntmps28
    go_wp2_with (refine wpList_boxBlk rfl 23 (.tmp 0) rfl _ rfl ?_)
    intro w1 n1
    have B1 : Hid (Blk w1 w.heap.size 23 (imgC c d z e)) := n1.blk
    have F1 := Lib.hid n1.fr
    clear n1
    generalize hg : w.heap.size = g at *
    have HG := Lib.hid hg
    clear hg
    obtain ⟨k0, k1, k2, k3⟩ := img_cells B1.out (Fr.refl _ _)
    go_wp2_with fail
    refine (CE.out _).mono ?_
    rintro e' w2 ⟨rfl, f2⟩
    have B2 := Lib.hid (B1.out.fr f2 (fun x => x))
    have F2 := Lib.hid (F1.out.trans f2)
    clear f2 B1 F1 k0 k1 k2 k3
    go_wp2_with fail
    refine (CU.out _).mono ?_
    rintro e' w2' ⟨rfl, rfl⟩
    go_wp2_with (at_make; refine wpList_make_full _ rfl _ _ 42 rfl w2.heap.size 5 i0 (.int .u8 0) 1 Tryd.underlying42 hi hz0 hz1 _ _ _ _ n rfl rfl rfl rfl ?c1 ?c2 (Nat.le_refl _) ?_)
    case c1 => rw [hz2]; have := HN.out; omega
    case c2 => unfold maxLen; have := HN.out; omega
    intro w3 hown hgr
    have HB3 : Hid (BGrew w2 w3 (.slice (some ⟨w2.heap.size, 0, none⟩) n n) (List.replicate n 0)) := by
      refine BGrew.made ?_ (Nat.le_refl _) ((Fr.grown hgr).mono (fun k _ hk => by cases hk))
      rw [List.map_replicate]
      rw [toList_madeCells_one] at hown
      exact hown
    clear hown hgr
    generalize w2.heap.size = gb at *
    obtain rfl : n = 0 := HZ.out
    go_wp2
    go_loopw [4] (fun v wr => v = .int .i64 0 ∧ wr = w3) (fun v _ => 0)
    case atStart => exact ⟨rfl, rfl⟩
    case round =>
      obtain ⟨rfl, rfl⟩ := hrel
      obtain ⟨k0, k1, k2, k3⟩ := img_cells B2.out HB3.out.fr
      go_wp2_with fail
      refine (CD.out _).mono ?_
      rintro e' w5 ⟨rfl, f5⟩
      have HB6 := Lib.hid (HB3.out.behind f5)
      clear f5 HB3 k0 k1 k2 k3
      go_wp2
      go_loopw [6] (fun v wr => v = .int .i64 0 ∧ wr = w5) (fun v _ => 0)
      case atStart => exact ⟨rfl, rfl⟩
      case round =>
        obtain ⟨rfl, rfl⟩ := hrel
        have hcv : (convert 42 9 (.slice (some ⟨gb, 0, none⟩) 0 0)).run Tryd.prog wr = .ok (.string ⟨([] : List UInt8).toArray⟩) wr := by
          obtain ⟨g', c', hv, hR⟩ := HB6.out.slice
          cases hv
          exact run_str wr 42 9 5 Tryd.underlying42 Tryd.underlying5 Tryd.underlying9 _ _ _ _ _ hR
        have FE := Lib.hid (F2.out.trans HB6.out.fr)
        generalize (⟨([] : List UInt8).toArray⟩ : ByteArray) = MM at *
        go_wp2
        go_ret
        exact ⟨rfl, FE.out⟩
end Go.Proofs.YtfdcmjjafngonaaDoor
