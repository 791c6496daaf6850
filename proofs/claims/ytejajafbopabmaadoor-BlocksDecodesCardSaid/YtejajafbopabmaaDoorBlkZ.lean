/- The reference's Decode: behind three numbers and with a right length (written by genJ.py). -/
import Derived.Test.YtejajafbopabmaaDoorBlkJ
namespace Go.Proofs.YtejajafbopabmaaDoor
open Go.RowKit

theorem RM.set {w : World} {b c n : Nat} {l : List UInt8} (h : RM w b c n l) (k : Nat) (u : UInt8) : RM (w.setCell ⟨b, k, none⟩ (.int .i64 (u.toNat : Nat))) b c n (l.set k u) := by
  refine ⟨?_, h.h1, h.hn⟩
  have := (h.own.stored k (ri u)).1
  rw [List.map_set]
  exact this

theorem bit_test2 (s : ByteArray) (K k : Nat) (hx : K + k / 8 < s.size) : bits .and .u8 ((((s[K + k / 8]'hx).toNat : Nat) : Int) / 2 ^ (k % 8)) 1 = ((bitAt ((strL s).drop K) k : Nat) : Int) := by
  have hl : K + k / 8 < (strL s).length := by rw [strL_length]; exact hx
  have e : (s[K + k / 8]'hx).toNat = byteAt ((strL s).drop K) (k / 8) := by
    unfold byteAt
    rw [List.getElem?_drop, List.getElem?_eq_getElem hl]
    rfl
  rw [e]
  unfold bitAt
  generalize (strL s).drop K = B
  have h1 := byteAt_256 B (k / 8)
  have h2 : byteAt B (k / 8) / 2 ^ (k % 8) < 256 := Nat.lt_of_le_of_lt (Nat.div_le_self _ _) h1
  have e2 : ((byteAt B (k / 8) : Nat) : Int) / 2 ^ (k % 8) = ((byteAt B (k / 8) / 2 ^ (k % 8) : Nat) : Int) := by
    rw [Int.natCast_ediv, Int.natCast_pow]
    rfl
  rw [e2]
  have h3 := u8_and_nat (byteAt B (k / 8) / 2 ^ (k % 8)) 1 h2 (by omega)
  rw [Nat.and_one_is_mod] at h3
  exact h3

theorem toList_data' (s : ByteArray) : s.toList = s.data.toList := ByteArray.toList_eq s
theorem str_ne {a b : ByteArray} (h : a ≠ b) : (!a.toList == b.toList) = true := by
  rw [toList_data', toList_data', Bool.not_eq_true', beq_eq_false_iff_ne]
  intro e
  apply h
  cases a; cases b
  simp only [ByteArray.mk.injEq]
  exact Array.toList_inj.1 e

theorem strL_back (s : ByteArray) : (⟨(strL s).toArray⟩ : ByteArray) = s := by
  cases s
  simp [strL]

/-- A new list of zeros. -/
def NewM (w : World) (f n : Nat) (e : Ending) (w' : World) : Prop := ∃ b c, e = .returned (.tuple #[mv f b c n, .int .i64 0]) ∧ w.heap.size ≤ b ∧ RM w' b c n (List.replicate n 0) ∧ Fr Nothing w w'

set_option maxRecDepth 100000 in
set_option maxHeartbeats 1000000 in
theorem rNew_new (f n : Nat) (w : World) (hf : f ≤ 1073741824) (h1 : 1 ≤ n) (hn : n ≤ 65536) :
    Calls Tryd.prog 33 #[.int .i64 f, .int .i64 n] w (NewM w f n) := by
  obtain ⟨i0, hi, hz0, hz1, hz2⟩ := info_parts info_int
  go_enter Tryd.func33, Tryd.ntmps33
  go_wp2_with (at_make; refine wpList_make_full _ rfl _ _ 26 rfl 0 3 i0 (.int .i64 0) 1 Tryd.underlying26 hi hz0 hz1 _ _ _ _ n rfl rfl rfl rfl ?c1 ?c2 (Nat.zero_le _) ?_)
  case c1 => rw [hz2]; omega
  case c2 => unfold maxLen; omega
  intro w1 hown hgr
  have HO := Lib.hid hown
  have hb := (Blk.new w 28 #[.int .i64 0, .slice none 0 0]).fr (Fr.grown hgr) (by simp)
  have HG : Hid (Fr Nothing w w1) := ((Fr.refl _ _).alloc _).trans ((Fr.grown hgr).mono (fun k _ hk => by cases hk))
  have c0 := hb.cell 0
  have c1 := hb.cell 1
  have f0 := hb.frozen 0
  have f1 := hb.frozen 1
  clear hown hgr
  simp at c0 c1
  go_wp2
  have hB2 : Blk ((w1.setCell ⟨w.heap.size, 0, none⟩ (.int .i64 f)).setCell ⟨w.heap.size, 1, none⟩ (.slice (some ⟨w.heap.size + 1, 0, none⟩) n n)) w.heap.size 28 #[.int .i64 f, .slice (some ⟨w.heap.size + 1, 0, none⟩) n n] := by simpa using (hb.set_ 0 (.int .i64 f)).set_ 1 (.slice (some ⟨w.heap.size + 1, 0, none⟩) n n)
  have hF2 : Fr Nothing w ((w1.setCell ⟨w.heap.size, 0, none⟩ (.int .i64 f)).setCell ⟨w.heap.size, 1, none⟩ (.slice (some ⟨w.heap.size + 1, 0, none⟩) n n)) := (HG.out.setCell (p := ⟨w.heap.size, 0, none⟩) (fun h => by simp at h) _).setCell (p := ⟨w.heap.size, 1, none⟩) (fun h => by simp at h) _
  have hR2 : RM ((w1.setCell ⟨w.heap.size, 0, none⟩ (.int .i64 f)).setCell ⟨w.heap.size, 1, none⟩ (.slice (some ⟨w.heap.size + 1, 0, none⟩) n n)) (w.heap.size + 1) n n (List.replicate n 0) := by
    have := HO.out
    rw [toList_madeCells_one] at this
    have h3 : RM w1 (w.heap.size + 1) n n (List.replicate n 0) := ⟨by simpa [ri] using this, h1, hn⟩
    exact h3.fr (((Fr.refl (One w.heap.size) w1).setCell (p := ⟨w.heap.size, 0, none⟩) (fun _ => rfl) _).setCell (p := ⟨w.heap.size, 1, none⟩) (fun _ => rfl) _) (by simp [One])
  generalize ((w1.setCell ⟨w.heap.size, 0, none⟩ (.int .i64 f)).setCell ⟨w.heap.size, 1, none⟩ (.slice (some ⟨w.heap.size + 1, 0, none⟩) n n)) = wF at *
  have d0 := hB2.cell 0
  have d1 := hB2.cell 1
  simp at d0 d1
  exact bodyPost_ret (v := .tuple #[mv f (w.heap.size + 1) n n, .int .i64 0]) (by simp [results, Tryd.results33, go_sem, mv, d0, d1]) rfl ⟨_, _, rfl, by omega, hR2, hF2⟩

/-- The reference's Decode at its end. -/
def REnd (w : World) (f n : Nat) (l : List UInt8) (ok : Prop) (e : Ending) (w' : World) : Prop :=
  (ok → ∃ b c, e = .returned (.tuple #[mv f b c n, .int .i64 0]) ∧ RM w' b c n l ∧ Fr Nothing w w') ∧
  (¬ ok → e = .returned (.tuple #[zeroM, .int .i64 3]) ∧ Fr Nothing w w')

set_option maxRecDepth 100000 in
set_option maxHeartbeats 1000000 in
theorem rDecode_end (s : ByteArray) (w : World) (hs : s.size ≤ 1099511627776) (f k1 : Nat) (e1 : pn (strL s) 9 = (f, k1, 0)) (hk1 : k1 ≤ s.size) (n k2 : Nat) (e2 : pn ((strL s).drop k1) 9 = (n, k2, 0)) (hk2 : k1 + k2 ≤ s.size) (hf : f ≤ 1073741824) (h1 : 1 ≤ n) (hn : n ≤ 65536) (x3 k4 : Nat) (e3 : pn ((strL s).drop (k1 + k2)) 9 = (x3, k4, 0)) (hk4 : k1 + k2 + k4 ≤ s.size) (h : s.size = k1 + k2 + k4 + (n + 7) / 8) :
    Calls Tryd.prog 36 #[.string s] w (REnd w f n (bitL ((strL s).drop (k1 + k2 + k4)) n) (encB f n (bitsOf ((n + 7) / 8) (pickF (bitL ((strL s).drop (k1 + k2 + k4)) n) 1 2 n n)) = strL s)) := by
  generalize hBL : bitL ((strL s).drop (k1 + k2 + k4)) n = BB
  generalize hok : (encB f n (bitsOf ((n + 7) / 8) (pickF BB 1 2 n n)) = strL s) = ok
  have HBL := Lib.hid hBL
  have HOK := Lib.hid hok
  have H0 := Lib.hid h
  clear hBL hok h
  have hB := Blk.new w 28 #[.int .i64 0, .slice none 0 0]
  have hF : Fr Nothing w (w.alloc (.cells #[.int .i64 0, .slice none 0 0] 28)) := (Fr.refl _ _).alloc _
  obtain ⟨aa, cc, w1, S1, hcv, hf1, hr1⟩ := conv_bytes' (w.alloc (.cells #[.int .i64 0, .slice none 0 0] 28)) s
  have HB1 := Lib.hid (hB.fr hf1 (fun x => x))
  have HF1 := Lib.hid (hF.trans hf1)
  have HR1 := Lib.hid hr1
  clear hB hF hf1 hr1
  go_enter Tryd.func36, Tryd.ntmps36
  go_wp2_with fail
  refine (refParse_any _ _ _ (strL s) _ _ HR1.out hs).mono ?_
  rintro e w2 ⟨rfl, rfl⟩
  rw [e1]
  obtain ⟨a2, c2, w2, S2, hcv2, hf2, hr2⟩ := conv_bytes' w1 (s.extract k1 s.size)
  rw [size_from, strL_from] at hr2
  rw [size_from] at hcv2
  have HB2 := Lib.hid (HB1.out.fr hf2 (fun x => x))
  have HF2 := Lib.hid (HF1.out.trans hf2)
  have HR2 := Lib.hid hr2
  have hs2 : s.size - k1 ≤ 1099511627776 := by omega
  have hk1' : (k1 : Int) ≤ (s.size : Int) := by omega
  clear hf2 hr2 hcv HR1 HB1 HF1
  go_wp2_with fail
  refine (refParse_any _ _ _ ((strL s).drop k1) _ _ HR2.out hs2).mono ?_
  rintro e w2' ⟨rfl, rfl⟩
  clear hcv2 HR2 hs2
  rw [e2]
  go_wp2_with fail
  refine (rNew_new f n _ hf h1 hn).mono ?_
  rintro e w3 ⟨b, c, rfl, hb3, hr3, hf3⟩
  have HBN : Hid (w.heap.size ≤ b) := Nat.le_trans HF2.out.size hb3
  clear hb3
  have hf4 : Fr Nothing w3 (w3.alloc (.cells #[.int .i64 f, .slice (some ⟨b, 0, none⟩) n c] 28)) := (Fr.refl _ _).alloc _
  have HB3 := Lib.hid ((HB2.out.fr hf3 (fun x => x)).fr hf4 (fun x => x))
  have HF3 := Lib.hid ((HF2.out.trans hf3).trans hf4)
  have HX3 := Lib.hid (Blk.new w3 28 #[.int .i64 f, .slice (some ⟨b, 0, none⟩) n c])
  have HM3 := Lib.hid (hr3.fr0 hf4)
  have HLT : Hid (w.heap.size < w3.heap.size) := (HB2.out.fr hf3 (fun x => x)).lt
  clear hr3 hf3 hf4 HB2 HF2
  unfold mv
  go_upto_region 8 with fail
  generalize w3.heap.size = X at *
  generalize (w3.alloc (.cells #[.int .i64 f, .slice (some ⟨b, 0, none⟩) n c] 28)) = w4 at *
  obtain ⟨k3, hk3⟩ : ∃ k3 : Nat, k3 = k1 + k2 := ⟨_, rfl⟩
  have hadd : (k1 : Int) + (k2 : Int) = (k3 : Int) := by omega
  have hk3' : (k3 : Int) ≤ (s.size : Int) := by omega
  have wk3 : IntKind.i64.wrap (k3 : Int) = (k3 : Int) := IntWalk.i64_in _ (by omega)
  have wk4 : IntKind.i64.wrap ((k1 : Int) + (k2 : Int)) = (k3 : Int) := by rw [hadd]; exact wk3
  have HK3 := Lib.hid hk3
  have hs5 : s.size - k3 ≤ 1099511627776 := by omega
  clear hk3
  obtain ⟨a5, c5, w5, S5, hcv5, hf5, hr5⟩ := conv_bytes' w4 (s.extract k3 s.size)
  rw [size_from, strL_from] at hr5
  rw [size_from] at hcv5
  have HB5 := Lib.hid (HB3.out.fr hf5 (fun x => x))
  have HX5 := Lib.hid (HX3.out.fr hf5 (fun x => x))
  have HM5 := Lib.hid (HM3.out.fr0 hf5)
  have HF5 := Lib.hid (HF3.out.trans hf5)
  have HR5 := Lib.hid hr5
  clear hf5 hr5 HB3 HX3 HM3 HF3
  go_wp2_with fail
  refine (refParse_any _ _ _ ((strL s).drop k3) _ _ HR5.out hs5).mono ?_
  rintro e w5' ⟨rfl, rfl⟩
  rw [HK3.out]
  clear hcv5 HR5 hs5 wk3 wk4 hadd hk3'
  rw [e3]
  have hqb : ((s.size : Int) != (k1 : Int) + (k2 : Int) + (k4 : Int) + ((n : Int) + 7) / 8) = false := by have := H0.out; rw [bne_eq_false_iff_eq]; omega
  obtain ⟨K, hK⟩ : ∃ K : Nat, K = k1 + k2 + k4 := ⟨_, rfl⟩
  rw [← hK] at HBL
  have HK := Lib.hid hK
  have HH : Hid (s.size = K + (n + 7) / 8) := by have := H0.out; simp only [Hid]; omega
  clear hK
  go_wp2
  go_loopw [12] (fun i wr => ∃ k : Nat, k ≤ n ∧ i = .int .i64 k ∧ RM wr b c n (bitK ((strL s).drop K) n k) ∧ Fr (One b) w5 wr) (fun i _ => n - (intOf i).toNat)
  case atStart => exact ⟨0, Nat.zero_le _, rfl, by rw [bitK_zero]; exact HM5.out, Fr.refl _ _⟩
  case round =>
    obtain ⟨k, hk, rfl, hM, hF⟩ := hrel
    have KM := Lib.hid hM
    have KF := Lib.hid hF
    have KX := Lib.hid (HX5.out.fr hF (fun e => HM5.out.ne_blk HX5.out (by decide) (show X = b from e).symm))
    clear hM hF
    obtain ⟨x0, x1, _, _⟩ := KX.out.two
    by_cases hlt : k < n
    · have hx : K + k / 8 < s.size := by have := HH.out; omega
      have hb := bit_test2 s K k hx
      have hb2 := bitAt_lt ((strL s).drop K) k
      have hix : (k1 : Int) + (k2 : Int) + (k4 : Int) + (k : Int) / 8 = ((K + k / 8 : Nat) : Int) := by have := HK.out; omega
      have hix2 : (K : Int) + (k : Int) / 8 < (s.size : Int) := by have := hx; omega
      by_cases h0 : bitAt ((strL s).drop K) k = 0
      · rw [h0] at hb
        have HK2 := Lib.hid (bitK_skip ((strL s).drop K) n k h0)
        clear h0 hb2
        have hb0 : (bits BinOp.and IntKind.u8 ((((s[K + k / 8]'hx).toNat : Nat) : Int) / 2 ^ (k % 8)) 1 == 1) = false := by rw [hb]; rfl
        clear hb
        go_wp2
        go_roundw
        case rel => exact ⟨k + 1, by omega, by go_num, by rw [HK2.out]; exact KM.out, KF.out⟩
        case measure => simp [intOf]; omega
      · have h1b : bitAt ((strL s).drop K) k = 1 := by omega
        rw [h1b] at hb
        have HK2 := Lib.hid (bitK_set ((strL s).drop K) n k h1b)
        have hb0 : (bits BinOp.and IntKind.u8 ((((s[K + k / 8]'hx).toNat : Nat) : Int) / 2 ^ (k % 8)) 1 == 1) = true := by rw [hb]; rfl
        have fz := KM.out.free k
        have c2 := KM.out.at_ hlt
        have KS : Hid (RM (wr.setCell ⟨b, k, none⟩ (.int .i64 1)) b c n (bitK ((strL s).drop K) n (k + 1))) := by
          simp only [Hid]
          rw [HK2.out]
          exact KM.out.set k 1
        have KT : Hid (Fr (One b) w5 (wr.setCell ⟨b, k, none⟩ (.int .i64 1))) := KF.out.trans fr_set
        clear h0 h1b hb2 hb HK2 KM KF
        go_wp2
        go_roundw
        case rel => exact ⟨k + 1, by omega, by go_num, KS.out, KT.out⟩
        case measure => simp [intOf]; omega
    · have hd : decide (k < n) = false := by simpa using hlt
      rw [bitK_all _ n k (by omega), HBL.out] at KM
      have K0 : Hid (Fr Nothing w wr) := HF5.out.then_ KF.out (fun i hi e => by have e' : i = b := e; have := HBN.out; omega)
      have KB := Lib.hid (HB5.out.fr KF.out (fun e => HM5.out.ne_blk HB5.out (by decide) (show w.heap.size = b from e).symm))
      have CE := Lib.hid (rEncode_any f b c n BB wr KM.out hf)
      unfold mv at CE
      clear KF HB5 HX5 HM5 HF5
      by_cases hE : encB f n (bitsOf ((n + 7) / 8) (pickF BB 1 2 n n)) = strL s
      · have hEs : (⟨(encB f n (bitsOf ((n + 7) / 8) (pickF BB 1 2 n n))).toArray⟩ : ByteArray) = s := by rw [hE]; exact strL_back s
        have HO : Hid ok := HOK.out.mp hE
        rw [hEs] at CE
        clear hE hEs HOK
        go_wp2_with fail
        refine CE.out.mono ?_
        rintro e w6 ⟨rfl, hf6⟩
        have B6 := Lib.hid (KB.out.fr hf6 (fun x => x))
        have X6 := Lib.hid (KX.out.fr hf6 (fun x => x))
        have F6 := Lib.hid (K0.out.trans hf6)
        have R6 := Lib.hid (KM.out.fr0 hf6)
        clear x0 x1 hf6 KB KX K0 KM CE
        obtain ⟨x0, x1, _, _⟩ := X6.out.two
        obtain ⟨g0, g1, g2, g3⟩ := B6.out.two
        go_wp2
        obtain ⟨⟨m0, m1⟩, q2, q3⟩ := ret_M (f := f) B6.out R6.out F6.out (Nat.le_refl _)
        exact bodyPost_ret (v := .tuple #[mv f b c n, .int .i64 0]) (by simp [results, Tryd.results36, go_sem, mv, m0, m1]) rfl ⟨fun _ => ⟨b, c, rfl, q2, q3⟩, fun h => absurd HO.out h⟩
      · have HO : Hid (¬ ok) := fun h => hE (HOK.out.mpr h)
        have hEs : (⟨(encB f n (bitsOf ((n + 7) / 8) (pickF BB 1 2 n n))).toArray⟩ : ByteArray) ≠ s := fun e => hE (by rw [← e]; simp [strL])
        generalize (⟨(encB f n (bitsOf ((n + 7) / 8) (pickF BB 1 2 n n))).toArray⟩ : ByteArray) = E at *
        have hEb : (!E.toList == s.toList) = true := str_ne hEs
        clear hE hEs HOK
        go_wp2_with fail
        refine CE.out.mono ?_
        rintro e w6 ⟨rfl, hf6⟩
        have B6 := Lib.hid (KB.out.fr hf6 (fun x => x))
        have F6 := Lib.hid (K0.out.trans hf6)
        clear x0 x1 hf6 KB KX K0 KM CE
        obtain ⟨x0, x2, x3, x4⟩ := B6.out.two
        have B9 := Lib.hid (B6.out.set2 (.int .i64 0) (.slice none 0 0))
        obtain ⟨d0, d1, _, _⟩ := B9.out.two
        have F9 : Hid (Fr Nothing w ((w6.setCell ⟨w.heap.size, 0, none⟩ (.int .i64 0)).setCell ⟨w.heap.size, 1, none⟩ (.slice none 0 0))) := F6.out.then_ (fr_one2 w6 w.heap.size (.int .i64 0) (.slice none 0 0)) (fun i hi e => by have e' : i = w.heap.size := e; omega)
        go_wp2
        exact bodyPost_ret (v := .tuple #[zeroM, .int .i64 3]) (by simp [results, Tryd.results36, go_sem, zeroM, d0, d1]) rfl ⟨fun h => absurd h HO.out, fun _ => ⟨rfl, F9.out⟩⟩
end Go.Proofs.YtejajafbopabmaaDoor
