/- The reference's Encode of images (written by genI6.py). -/
import Derived.Lib.SlBytesConst
import Derived.Test.YtfdcmjjafngonaaDoorImK
import Derived.Test.YtfdcmjjafngonaaDoorShaF
namespace Go.Proofs.YtfdcmjjafngonaaDoor
open Go.RowKit

theorem BGrew.lit (w : World) (l : List UInt8) (hl : l.length ≤ 1000) : BGrew w (w.alloc (.cells (l.map bv).toArray 5 (l.length, l.length + 1))) (.slice (some ⟨w.heap.size, 0, none⟩) l.length l.length) l := by
  have hg : (w.alloc (.cells (l.map bv).toArray 5 (l.length, l.length + 1))).heap[w.heap.size]? = some (.cells (l.map bv).toArray 5 (l.length, l.length + 1)) := World.alloc_heap_new w _
  refine ⟨(Fr.refl _ _).alloc _, w.heap.size, l.length, rfl, Nat.le_refl _, by simp, Nat.le_refl _, by unfold maxLen; omega, fun j hj => ?_, fun j hj => ?_, fun j u hu => ?_⟩
  · simp only [World.cell?, hg]
    simp [hj]
  · simp only [World.frozen?, hg]
    simp
    omega
  · simp only [World.cell?, hg]
    have : (l.map bv)[j]? = some u := hu
    simpa using this

theorem BGrew.behind {W w w' : World} {v : Value} {l : List UInt8} (h : BGrew W w v l) (k : Fr Nothing w w') : BGrew W w' v l := by
  obtain ⟨hf, g, cap, rfl, hWg, hgw, hlc, hcm, hc, hz, hr⟩ := h
  exact ⟨hf.trans k, g, cap, rfl, hWg, Nat.lt_of_lt_of_le hgw k.size, hlc, hcm, fun j hj => by rw [k.cell hgw (fun x => x)]; exact hc j hj, fun j hj => by rw [k.frozen hgw (fun x => x)]; exact hz j hj, fun j u hu => by rw [k.cell hgw (fun x => x)]; exact hr j u hu⟩

theorem BGrew.slice {W w : World} {v : Value} {l : List UInt8} (h : BGrew W w v l) : ∃ g c, v = .slice (some ⟨g, 0, none⟩) l.length c ∧ Rd w (fun k => k = g) 1 (some ⟨g, 0, none⟩) l.length (l.map bv) := by
  obtain ⟨hf, g, cap, rfl, hWg, hgw, hlc, hcm, hc, hz, hr⟩ := h
  exact ⟨g, cap, rfl, by simp, fun _ => ⟨_, rfl, rfl, fun j u hu => by rw [Addr.add_mid, Nat.zero_add]; exact hr j u hu⟩⟩

/-- append of bytes that are read somewhere. -/
theorem wpList_appBR {ops : Array Oper} {rest : List Oper} {o : Oper} {a : Act} {w : World} {Q : Exit → Act → World → Prop} (hgd : o.guard = none) (s x : Operand)
    (ho : o.op = .call { callee := .builtin .append, args := #[s, x], argTypes := #[42, 42] }) {W : World} {v : Value} {l : List UInt8} (hB : BGrew W w v l) (hs : a.eval s = v)
    (S : Nat → Prop) (A : Option Addr) (m c : Nat) (xs : List UInt8) (hx : a.eval x = .slice A m c) (hR : Rd w S 1 A m (xs.map bv))
    (hl : l.length + xs.length ≤ 140737488355328) (hne : xs ≠ [])
    (h : ∀ v' w', BGrew W w' v' (l ++ xs) → wpList Tryd.prog ops Q rest (a.put o.dst v') w') : wpList Tryd.prog ops Q (o :: rest) a w := by
  subst hs
  have hm : xs.length = m := by have := hR.1; simpa using this
  have h0 : 0 < m := by rw [← hm]; exact List.length_pos_iff.2 hne
  obtain ⟨ad, rfl, _, hc⟩ := hR.2 h0
  obtain ⟨v', w', hrun, h2⟩ := hB.app o.type ad c hc hl hne
  rw [hm] at hrun
  refine wpList_plain hgd fun K hK => ?_
  unfold Oper.wp execOp
  simp only [ho, resolve, invoke, builtin, Sem.run_bind, Sem.run_pure, Result.andThen_ok, List.map_toArray, List.map_cons, List.map_nil, hx, hrun]
  exact hK _ _ (h v' w' h2)

theorem enc_ne (n : Nat) : enc n ≠ [] := by
  unfold enc
  simp only [encF]
  split <;> simp
theorem textL_ne (c : ByteArray) : textL c ≠ [] := by
  unfold textL
  intro h
  exact enc_ne _ (List.append_eq_nil_iff.1 h).1

set_option maxRecDepth 100000 in
set_option maxHeartbeats 4000000 in
theorem rEncode_ok (c d : ByteArray) (z e : Nat) (w : World) (hk : checkI c.size d.size z e = 0) :
    Calls Tryd.prog 22 #[imgV c d z e] w (SameIn w (.tuple #[.string ⟨(encL (strL c) (strL d) z e).toArray⟩, .int .i64 0])) := by
  have hok := checkI_ok hk
  have hu := upN_le c.size
  have hc : c.size ≤ 4096 := by omega
  have hd : d.size ≤ 4096 := by omega
  have hz : z ≤ 4096 := by omega
  have he : e ≤ 4096 := by omega
  have CH := Lib.hid (fun w => rCheck_any c d z e w (by omega) (by omega) (by omega) (by omega))
  rw [hk] at CH
  have X1 := Lib.hid (fun w => refText_any c w (by omega))
  have X2 := Lib.hid (fun w => refText_any d w (by omega))
  have X3 := Lib.hid (fun w => Natural_any z w (by omega))
  have X4 := Lib.hid (fun w => Natural_any e w (by omega))
  obtain ⟨MB, hMB⟩ : ∃ MB : ByteArray, MB = ⟨(bodyL (strL c) (strL d) z e).toArray⟩ := ⟨_, rfl⟩
  have hMBL : strL MB = bodyL (strL c) (strL d) z e := by rw [hMB, strL_mk]
  have hml := midL_length (strL c) (strL d) z e (by rw [strL_length]; omega) (by rw [strL_length]; omega) hz he
  have hMs : MB.size ≤ 8304 := by rw [← strL_length, hMBL, bodyL_length]; omega
  obtain ⟨ck, hck⟩ : ∃ ck : ByteArray, ck = ⟨(chk8 (strL MB)).toArray⟩ := ⟨_, rfl⟩
  have hcs : ck.size ≤ 8 := by rw [← strL_length, hck, strL_mk, chk8_length]; omega
  have CK := Lib.hid (fun w' => rcheck_any MB w' (by omega))
  rw [← hck] at CK
  have hR : (⟨(encL (strL c) (strL d) z e).toArray⟩ : ByteArray) = MB ++ ck := by
    refine (ba_of _ _ ?_).symm
    rw [strL_append, hMBL, hck, strL_mk, hMBL]
    rfl
  rw [hR]
  have l1 : (textL c).length ≤ 4106 := by rw [textL, List.length_append, strL_length]; have := enc_le10 c.size (by omega); omega
  have l2 : (textL d).length ≤ 4106 := by rw [textL, List.length_append, strL_length]; have := enc_le10 d.size (by omega); omega
  have l3 := enc_le10 z (by omega)
  have l4 := enc_le10 e (by omega)
  have ne1 := Lib.hid (textL_ne c)
  have ne2 := Lib.hid (textL_ne d)
  have ne3 := Lib.hid (enc_ne z)
  have ne4 := Lib.hid (enc_ne e)
  have HB : Hid (magic ++ textL c ++ textL d ++ enc z ++ enc e = bodyL (strL c) (strL d) z e) := by
    simp only [Hid, bodyL, midL, textL, strL_length, List.append_assoc]
  have HMB := Lib.hid hMB
  have hmg : magic.length = 4 := rfl
  have cvI := Lib.hid (fun (w : World) => Lib.run_convert_bytes_const (P := Tryd.prog) w 42 5 #[.int .u8 127, .int .u8 82, .int .u8 80, .int .u8 76] 4 4 Tryd.underlying42 Tryd.underlying5)
  have LIT := Lib.hid (fun (w : World) => BGrew.lit w magic (by decide))
  change Hid (∀ w, BGrew w (w.alloc (.cells #[.int .u8 127, .int .u8 82, .int .u8 80, .int .u8 76] 5 (4, 5))) (.slice (some ⟨w.heap.size, 0, none⟩) 4 4) magic) at LIT
  change Hid (∀ w : World, (convert 42 42 (.slice (some ⟨w.heap.size, 0, none⟩) 4 4)).run Tryd.prog (w.alloc (.cells #[.int .u8 127, .int .u8 82, .int .u8 80, .int .u8 76] 5)) = .ok (.slice (some ⟨w.heap.size, 0, none⟩) 4 4) (w.alloc (.cells #[.int .u8 127, .int .u8 82, .int .u8 80, .int .u8 76] 5 (4, 5)))) at cvI
  generalize htc : textL c = TC at *
  generalize htd : textL d = TD at *
  generalize hez : enc z = EZ at *
  generalize hee : enc e = EE at *
  generalize bodyL (strL c) (strL d) z e = BB at *
  generalize hmm : magic = MG at *
  clear hok hu hml hMB hMBL hck hR hk htc htd hez hee hmm
  go_enter Tryd.func22, Tryd.ntmps22
  go_wp2_with (refine wpList_boxBlk rfl 23 (.tmp 0) rfl _ rfl ?_)
  intro w1 n1
  have BW : Hid (Blk w1 w.heap.size 23 (imgC c d z e)) := n1.blk
  have FW := Lib.hid n1.fr
  clear n1
  obtain ⟨k0, k1, k2, k3⟩ := img_cells BW.out (Fr.refl _ _)
  generalize hg : w.heap.size = g at *
  have HG := Lib.hid hg
  clear hg
  go_wp2_with fail
  refine (CH.out _).mono ?_
  rintro e' w2 ⟨rfl, f2⟩
  have FX := Lib.hid (FW.out.trans f2)
  have BX := Lib.hid (BW.out.fr f2 (fun x => x))
  have HO := Lib.hid (LIT.out w2)
  have HA : Hid (Fr Nothing w2 (w2.alloc (.cells #[.int .u8 127, .int .u8 82, .int .u8 80, .int .u8 76] 5 (4, 5)))) := (Fr.refl Nothing w2).alloc _
  clear k0 k1 k2 k3 f2 BW FW CH
  obtain ⟨k0, k1, k2, k3⟩ := img_cells BX.out HA.out
  have cv0 := cvI.out w2
  go_wp2_with fail
  have FA := Lib.hid (FX.out.trans HA.out)
  have BA := Lib.hid (BX.out.fr HA.out (fun x => x))
  generalize (w2.alloc (.cells #[.int .u8 127, .int .u8 82, .int .u8 80, .int .u8 76] 5 (4, 5))) = wA at *
  generalize w2.heap.size = gA at *
  clear HA cv0 LIT cvI FA BA
  have GA := HO
  clear HO
  refine (X1.out _).mono ?_
  rintro e' x0 ⟨v0, rfl, hg0⟩
  have FT0 := Lib.hid hg0.fr0
  obtain ⟨A0, m0, c0, rfl, H0, _⟩ := own_slice hg0.own
  have HR0 := Lib.hid (OwnB.rd hg0.own H0.out)
  clear hg0 k0 k1 k2 k3 X1
  have GX0 := Lib.hid (GA.out.behind FT0.out)
  have LN0 : Hid ((MG).length + TC.length ≤ 140737488355328) := by simp only [Hid];  omega
  go_wp2_with (refine wpList_appBR rfl _ _ rfl GX0.out rfl _ _ _ _ _ rfl HR0.out LN0.out ne1.out ?_)
  intro v0b y0 hgb
  have GB0 := Lib.hid hgb
  clear hgb FT0 HR0 GX0 LN0 GA
  have HLE0 : Hid ((MG ++ TC).length = MG.length + TC.length) := List.length_append
  generalize MG ++ TC = L0 at *
  obtain ⟨gb0, cb0, rfl, HRB0⟩ := GB0.out.slice
  have BB0 : Hid (Blk y0 g 23 (imgC c d z e)) := BX.out.fr GB0.out.fr (fun h => h)
  have HS0 := Lib.hid HRB0
  clear HRB0
  obtain ⟨k0, k1, k2, k3⟩ := img_cells BB0.out (Fr.refl _ _)
  go_wp2_with fail
  refine (X2.out _).mono ?_
  rintro e' x1 ⟨v1, rfl, hg1⟩
  have FT1 := Lib.hid hg1.fr0
  obtain ⟨A1, m1, c1, rfl, H1, _⟩ := own_slice hg1.own
  have HR1 := Lib.hid (OwnB.rd hg1.own H1.out)
  clear hg1 k0 k1 k2 k3 X2
  have GX1 := Lib.hid (GB0.out.behind FT1.out)
  have LN1 : Hid ((L0).length + TD.length ≤ 140737488355328) := by simp only [Hid]; have := HLE0.out; omega
  go_wp2_with (refine wpList_appBR rfl _ _ rfl GX1.out rfl _ _ _ _ _ rfl HR1.out LN1.out ne2.out ?_)
  intro v1b y1 hgb
  have GB1 := Lib.hid hgb
  clear hgb FT1 HR1 GX1 LN1 GB0
  have HLE1 : Hid ((L0 ++ TD).length = L0.length + TD.length) := List.length_append
  generalize L0 ++ TD = L1 at *
  obtain ⟨gb1, cb1, rfl, HRB1⟩ := GB1.out.slice
  have BB1 : Hid (Blk y1 g 23 (imgC c d z e)) := BX.out.fr GB1.out.fr (fun h => h)
  have HS1 := Lib.hid HRB1
  clear HRB1
  obtain ⟨k0, k1, k2, k3⟩ := img_cells BB1.out (Fr.refl _ _)
  go_wp2_with fail
  refine (X3.out _).mono ?_
  rintro e' x2 ⟨v2, rfl, hg2⟩
  have FT2 := Lib.hid hg2.fr0
  obtain ⟨A2, m2, c2, rfl, H2, _⟩ := own_slice hg2.own
  have HR2 := Lib.hid (OwnB.rd hg2.own H2.out)
  clear hg2 k0 k1 k2 k3 X3
  have GX2 := Lib.hid (GB1.out.behind FT2.out)
  have LN2 : Hid ((L1).length + EZ.length ≤ 140737488355328) := by simp only [Hid]; have := HLE0.out; have := HLE1.out; omega
  go_wp2_with (refine wpList_appBR rfl _ _ rfl GX2.out rfl _ _ _ _ _ rfl HR2.out LN2.out ne3.out ?_)
  intro v2b y2 hgb
  have GB2 := Lib.hid hgb
  clear hgb FT2 HR2 GX2 LN2 GB1
  have HLE2 : Hid ((L1 ++ EZ).length = L1.length + EZ.length) := List.length_append
  generalize L1 ++ EZ = L2 at *
  obtain ⟨gb2, cb2, rfl, HRB2⟩ := GB2.out.slice
  have BB2 : Hid (Blk y2 g 23 (imgC c d z e)) := BX.out.fr GB2.out.fr (fun h => h)
  have HS2 := Lib.hid HRB2
  clear HRB2
  obtain ⟨k0, k1, k2, k3⟩ := img_cells BB2.out (Fr.refl _ _)
  go_wp2_with fail
  refine (X4.out _).mono ?_
  rintro e' x3 ⟨v3, rfl, hg3⟩
  have FT3 := Lib.hid hg3.fr0
  obtain ⟨A3, m3, c3, rfl, H3, _⟩ := own_slice hg3.own
  have HR3 := Lib.hid (OwnB.rd hg3.own H3.out)
  clear hg3 k0 k1 k2 k3 X4
  have GX3 := Lib.hid (GB2.out.behind FT3.out)
  have LN3 : Hid ((L2).length + EE.length ≤ 140737488355328) := by simp only [Hid]; have := HLE0.out; have := HLE1.out; have := HLE2.out; omega
  go_wp2_with (refine wpList_appBR rfl _ _ rfl GX3.out rfl _ _ _ _ _ rfl HR3.out LN3.out ne4.out ?_)
  intro v3b y3 hgb
  have GB3 := Lib.hid hgb
  clear hgb FT3 HR3 GX3 LN3 GB2
  have HLE3 : Hid ((L2 ++ EE).length = L2.length + EE.length) := List.length_append
  generalize L2 ++ EE = L3 at *
  obtain ⟨gb3, cb3, rfl, HRB3⟩ := GB3.out.slice
  have BB3 : Hid (Blk y3 g 23 (imgC c d z e)) := BX.out.fr GB3.out.fr (fun h => h)
  have HS3 := Lib.hid HRB3
  clear HRB3
  have FZ : Hid (Fr Nothing w y3) := FX.out.trans GB3.out.fr
  obtain rfl : L3 = BB := HB.out
  go_wp2_with fail
  have hcv : ∀ y : In (Later y3), (convert 42 9 (.slice (some ⟨gb3, 0, none⟩) L3.length cb3)).run Tryd.prog y.w = .ok (.string MB) y.w := fun y => by
    rw [HMB.out]
    exact run_str y.w 42 9 5 Tryd.underlying42 Tryd.underlying5 Tryd.underlying9 _ _ _ cb3 _ (HS3.out.fr0 y.h)
  refine wp_region_in (Later y3) ((Fr.refl _ _).drew) (by kernel_rfl) (by kernel_rfl) ?_
  repeat (go_big_quiet_step ((go_at_call 41; exact In.later (CK.out _))))
  refine wpQuiet_nil ?_
  rintro _ ⟨y, rfl⟩
  have FY := Lib.hid (FZ.out.trans y.h)
  generalize y.w = w5 at *
  clear hcv y CK
  go_wp2
  go_ret2
  exact ⟨rfl, FY.out⟩

set_option maxRecDepth 100000 in
set_option maxHeartbeats 1000000 in
theorem rEncode_any (c d : ByteArray) (z e : Int) (w : World) (hc : c.size ≤ 1099511627776) (hd : d.size ≤ 1099511627776) (hz : -9223372036854775808 ≤ z ∧ z ≤ 9223372036854775807) (he : -9223372036854775808 ≤ e ∧ e ≤ 9223372036854775807) :
    Calls Tryd.prog 22 #[imgV c d z e] w (SameIn w (.tuple #[.string ⟨(encV (strL c) (strL d) z e).toArray⟩, .int .i64 (checkI c.size d.size z e)])) := by
  by_cases hk : checkI c.size d.size z e = 0
  · have hok := checkI_ok hk
    obtain ⟨z', rfl⟩ : ∃ z' : Nat, z = z' := ⟨z.toNat, by omega⟩
    obtain ⟨e', rfl⟩ : ∃ e' : Nat, e = e' := ⟨e.toNat, by omega⟩
    have := rEncode_ok c d z' e' w hk
    unfold encV
    rw [strL_length, strL_length, if_pos hk, hk, Int.toNat_natCast, Int.toNat_natCast]
    exact this
  · have CH := Lib.hid (fun w => rCheck_any c d z e w hc hd hz he)
    have t1 : (checkI c.size d.size z e != 0) = true := by rw [bne_iff_ne]; exact hk
    have hcr := checkI_range c.size d.size z e
    unfold encV
    rw [strL_length, strL_length, if_neg hk]
    clear hk
    generalize checkI c.size d.size z e = k at *
    go_enter Tryd.func22, Tryd.ntmps22
    go_wp2_with (refine wpList_boxBlk rfl 23 (.tmp 0) rfl _ rfl ?_)
    intro w1 n1
    have BW : Hid (Blk w1 w.heap.size 23 (imgC c d z e)) := n1.blk
    have FW := Lib.hid n1.fr
    clear n1
    obtain ⟨k0, k1, k2, k3⟩ := img_cells BW.out (Fr.refl _ _)
    generalize w.heap.size = g at *
    go_wp2_with fail
    refine (CH.out _).mono ?_
    rintro e' w2 ⟨rfl, f2⟩
    have FX := Lib.hid (FW.out.trans f2)
    clear f2
    go_wp2
    go_ret2
    exact ⟨rfl, FX.out⟩
end Go.Proofs.YtfdcmjjafngonaaDoor
