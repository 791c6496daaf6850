/- State: Encode (written by genScd.py). -/
import Derived.Test.YtpnchdgplpdefaaDoorScb
import Derived.Test.YtpnchdgplpdefaaDoorSaN
import Derived.Test.YtpnchdgplpdefaaDoorSce
namespace Go.Proofs.YtpnchdgplpdefaaDoor
open Go.RowKit Go.Shelf

attribute [local go_sem] Oper.semAt_some
theorem infoWP : (Tryd.prog.info? 100).map (·.size) = some 1 := by kernel_rfl
theorem zvWP (w : World) : (zeroValue 100).run Tryd.prog w = .ok (.pointer none) w := by kernel_rfl
structure WrI {α : Type} (w0 w3 : World) (g2 gw : Nat) (lw : List α → List UInt8) (pre : List α) (W : World) : Prop where
  fr : Fr Nothing w0 W
  kn : KN w3 W
  box : Blk W g2 100 #[.pointer (some ⟨gw, 0, none⟩)]
  wr : ∃ v, Wr W gw v (lw pre) 0 ∧ ∀ k, v.ownBlock = some k → w0.heap.size ≤ k
theorem cells_ne {X : World} {g k : Nat} {t : TypeId} {cs : Array Value} {o : Obj} (hb : Blk X g t cs) (ho : X.heap[k]? = some o) (hc : o.isCells = false) : g ≠ k := by
  rintro rfl
  unfold Blk at hb
  rw [hb] at ho
  cases ho
  simp [Obj.isCells] at hc
theorem own_cells_ne {X : World} {e : TypeId} {sz n k : Nat} {v : Value} {xs : List Value} {o : Obj} (h : X.ownsRow 0 e sz v n xs) (ho : X.heap[k]? = some o) (hc : o.isCells = false) : v.ownBlock ≠ some k := by
  intro hk
  obtain ⟨c, f, ho'⟩ := own_block h hk
  rw [ho'] at ho
  cases ho
  simp [Obj.isCells] at hc
theorem WrI.ownFrom {α : Type} {w0 w3 : World} {g2 gw B : Nat} {lw : List α → List UInt8} (hB : w0.heap.size ≤ B) : OwnFrom B (WrI w0 w3 g2 gw lw) := by
  intro pre X Y row h hg hr
  have hf : Fr (fun k => some k = row) X Y := Fr.grown hg
  obtain ⟨v, hw, hl⟩ := h.wr
  refine ⟨h.fr.then_ hf (fun i hi e => (by have := (hr i e.symm).1; omega)), h.kn.trans (KN.fr hf (fun g cs hb e => ?_)), h.box.fr hf (fun e => ?_), ⟨v, hw.far hf (fun k hk e => ?_), hl⟩⟩
  · obtain ⟨_, o, ho, hc⟩ := hr g e.symm
    exact cells_ne hb ho hc rfl
  · obtain ⟨_, o, ho, hc⟩ := hr g2 e.symm
    exact cells_ne h.box ho hc rfl
  · obtain ⟨_, o, ho, hc⟩ := hr k e.symm
    rcases hk with hk | hk
    · exact cells_ne hw.blk ho hc hk.symm
    · exact own_cells_ne hw.own ho hc hk
theorem WrI.step {α : Type} {w0 w3 W W1 X : World} {g2 gw B : Nat} {lw : List α → List UInt8} {pre pre' : List α} {v v3 : Value} (hI : WrI w0 w3 g2 gw lw pre W) (hgw : w0.heap.size ≤ gw)
    (hw : Wr W gw v (lw pre) 0) (hl : ∀ k, v.ownBlock = some k → w0.heap.size ≤ k) (f : Fr Nothing W W1) (st : WrStep W1 gw v X v3 (lw pre', 0)) : KeepsFrom B W X ∧ KN W X ∧ WrI w0 w3 g2 gw lw pre' X := by
  have F : Fr (WrT gw v) W X := f.weak.trans st.fr
  have K : KN W X := KN.fr F (fun g cs hb h => by
    rcases h with h | h
    · exact blk_apart hb hw.blk (by decide) h
    · exact own_blk_ne hw.own hb (by decide) h)
  refine ⟨⟨F.size, fun k o _ ho hc => ?_⟩, K, ?_, hI.kn.trans K, hI.box.fr F (fun h => ?_), ⟨v3, st.wr, fun k hk => ?_⟩⟩
  · refine (F.block k (Array.getElem?_eq_some_iff.1 ho).1 ?_).trans ho
    rintro (h | h)
    · exact cells_ne hw.blk ho hc h.symm
    · exact own_cells_ne hw.own ho hc h
  · refine hI.fr.then_ F (fun i hi h => ?_)
    rcases h with h | h
    · omega
    · have := hl i h
      omega
  · rcases h with h | h
    · exact blk_apart hI.box hw.blk (by decide) h
    · exact own_blk_ne hw.own hI.box (by decide) h
  · rcases st.lies k hk with h | h
    · exact hl k h
    · have := hI.fr.size
      have := f.size
      omega
def InL (LE : List Ent) (x : Nd) : Prop := (x.nm, x.v) ∈ LE
def encW {w : World} {P : Nd → Prop} (n : Nat) (ys : List (NdQ w P)) : List UInt8 := enc n ++ (ys.map ndVQ).flatMap entB
theorem encW_next {w : World} {P : Nd → Prop} (n : Nat) (ys : List (NdQ w P)) (y : NdQ w P) : encW n (ys ++ [y]) = encW n ys ++ textB (nameL y.1.nm) ++ textB (strL y.1.v) := by
  simp [encW, entB, ndVQ, List.flatMap_append, List.append_assoc]
theorem textB_str (s : ByteArray) : enc s.size ++ strL s = textB (strL s) := by rw [textB, strL_length]
theorem textB_mk (l : List UInt8) : enc (⟨l.toArray⟩ : ByteArray).size ++ strL ⟨l.toArray⟩ = textB l := by
  rw [← strL_length]
  rfl
structure SmallE (L : List Ent) : Prop where
  ok : ∀ x ∈ L, okNm x.1 = true
  owner : ∀ x ∈ L, x.1.owner.size ≤ 1048576
  text : ∀ x ∈ L, x.1.text.size ≤ 1048576
  value : ∀ x ∈ L, x.2.size ≤ 1048576
  len : L.length ≤ 60000
theorem ents_length : ∀ (L : List Ent), (∀ x ∈ L, x.1.owner.size ≤ 1048576) → (∀ x ∈ L, x.1.text.size ≤ 1048576) → (∀ x ∈ L, x.2.size ≤ 1048576) → (L.flatMap entB).length ≤ L.length * 4000000
  | [], _, _, _ => by simp
  | x :: L, h1, h2, h3 => by
    have ih := ents_length L (fun y hy => h1 y (by simp [hy])) (fun y hy => h2 y (by simp [hy])) (fun y hy => h3 y (by simp [hy]))
    have a1 := h1 x (by simp)
    have a2 := h2 x (by simp)
    have a3 := h3 x (by simp)
    have b1 := nameL_length x.1
    have b2 := enc_length (nameL x.1).length
    have b3 := enc_length (strL x.2).length
    have b4 := strL_length x.2
    simp only [List.flatMap_cons, entB, textB, List.length_append, List.length_cons] at ih ⊢
    omega
theorem encW_le {w : World} {P : Nd → Prop} (n : Nat) (ys : List (NdQ w P)) (h1 : ∀ y : NdQ w P, y.1.nm.owner.size ≤ 1048576) (h2 : ∀ y : NdQ w P, y.1.nm.text.size ≤ 1048576) (h3 : ∀ y : NdQ w P, y.1.v.size ≤ 1048576) : (encW n ys).length ≤ 10 + ys.length * 4000000 := by
  have h := ents_length (ys.map ndVQ) (fun x hx => by obtain ⟨y, _, rfl⟩ := List.mem_map.1 hx; exact h1 y) (fun x hx => by obtain ⟨y, _, rfl⟩ := List.mem_map.1 hx; exact h2 y) (fun x hx => by obtain ⟨y, _, rfl⟩ := List.mem_map.1 hx; exact h3 y)
  have h5 := enc_length n
  rw [List.length_map] at h
  simp only [encW, List.length_append]
  omega
def Encoded (w : World) (l : List UInt8) (e : Ending) (w' : World) : Prop := ∃ v, e = .returned v ∧ GrewB w (.slice none 0 0) w' v l

set_option maxRecDepth 100000 in
set_option maxHeartbeats 4000000 in
theorem SEnc_any (LE : List Ent) (s : Nat) (w : World) (hS0 : StL w s LE) (hU : UsaT w) (hE : SmallE LE) : Calls Tryd.prog 29 #[.pointer (some ⟨s, 0, none⟩)] w (Encoded w (encS LE)) := by
  obtain ⟨t, hSt, het⟩ := hS0
  have hz0 : t.size = LE.length := by rw [← t.toL_length, het]
  have CN := Lib.hid (fun w => nodes_any (some ⟨s, 0, none⟩) w)
  have HE := Lib.hid hE
  have HET := Lib.hid het
  have HZ := Lib.hid hz0
  have HU := Lib.hid hU
  have HS := Lib.hid hSt
  have HLEN : Hid ((encS LE).length ≤ 250000000000) := by
    have h1 := ents_length LE hE.owner hE.text hE.value
    have h2 := enc_length LE.length
    have h3 := hE.len
    simp only [Hid, encS, List.length_append]
    omega
  clear hSt het hz0 hE hU
  refine (callsIn_wide (n := 6)).1 (callsIn_of_wp_marks Tryd.func29 rfl trivial (wpIn_wide.2 ?_) rfl)
  simp only [Tryd.ntmps29, List.size_toArray, List.length_cons, List.length_nil, Nat.reduceAdd, Nat.reduceSub, Array.replicate_succ, Array.replicate_zero, List.push_toArray, List.append_toArray, List.nil_append, List.cons_append]
  go_wp2_with fail
  refine (NewWriter_any _).mono ?_
  rintro r w1 ⟨rfl, hw1, f1⟩
  have HGW : Sz w w.heap.size := Nat.le_refl _
  generalize w.heap.size = gw at *
  have W1 := Lib.hid hw1
  have F1 := Lib.hid f1
  clear hw1 f1
  go_wp2_with (refine wpList_allocBlk rfl 100 rfl (.pointer none) zvWP #[.pointer none] rfl ?_)
  intro w2 n2
  have N2 := Lib.hid n2
  clear n2
  have HG2 : Sz w w1.heap.size := F1.out.size
  generalize hg2 : w1.heap.size = g2 at *
  have HGG := Lib.hid hg2
  clear hg2
  have B2 : Hid (Blk w2 g2 100 #[.pointer none]) := by have h := N2.out.blk; rw [HGG.out] at h; exact h
  go_wp2_with (refine wpList_store1 rfl 100 (.tmp 3) _ rfl g2 (.pointer (some ⟨gw, 0, none⟩)) rfl rfl rfl _ _ B2.out infoWP ?_)
  intro w3 b3 f3
  have F13 : Hid (Fr Nothing w1 w3) := N2.out.fr.then_ f3 (fun i hi e => by have e' : i = g2 := e; have := HGG.out; omega)
  have F3 := Lib.hid (F1.out.trans F13.out)
  have B3 := Lib.hid b3
  have W3 : Hid (Wr w3 gw (.slice none 0 0) [] 0) := W1.out.far F13.out (fun _ _ x => x)
  clear b3 f3 N2 B2 W1 F1 F13
  have CL : Hid (∀ w', Fr Nothing w3 w' → Calls Tryd.prog 33 #[.pointer (some ⟨s, 0, none⟩)] w' (SameW w' (.int .i64 (LE.length : Int)))) := fun w' f => by
    rw [← HZ.out]
    exact Len_any w' s t (HS.out.fr0 (F3.out.trans f))
  go_upto_region 4 with fail
  refine wp_region_st 3 Nothing [Is (.pointer (some ⟨gw, 0, none⟩)), Is (.pointer (some ⟨s, 0, none⟩)), Is (.int .i64 (LE.length : Int))] [] (fun _ => True) (fun _ _ => false) (by kernel_rfl) (by kernel_rfl) (by kernel_rfl) (by kernel_rfl) ⟨Is.stable _, Is.stable _, Is.stable _, trivial⟩ trivial (fun _ _ _ _ h => h) trivial ?_ ?_
  · refine ⟨?a11_0, ?a11_1, ?a11_2, trivial⟩
    all_goals intro u w' d hf hR k1 k0 kM
    all_goals simp only [List.take_succ_cons, List.take_zero, List.map_cons, List.map_nil, puts, Act.put, List.setIfInBounds_toArray, List.set_cons_zero, List.set_cons_succ, Nat.reduceAdd, Nat.zero_add]
    case a11_0 =>
      clear hR k1 k0 kM
      refine .inl ⟨by kernel_rfl, ?_⟩
      have q : _ = some (Value.pointer (some ⟨gw, 0, none⟩)) := (B3.out.fr hf (fun x => x)).cell 0
      go_simp
      exact ⟨_, rfl, Fr.refl _ _, rfl, trivial⟩
    case a11_2 =>
      simp only [show u 1 = _ from hR 1 (by kernel_rfl)]
      clear hR k1 k0 kM
      refine .inl ⟨by kernel_rfl, ?_⟩
      go_simp
      refine (CL.out _ hf).mono ?_
      rintro e w4 ⟨rfl, rfl⟩
      exact ⟨_, rfl, Fr.refl _ _, rfl, trivial⟩
    all_goals
      clear hR k1 k0 kM
      refine .inl ⟨by kernel_rfl, ?_⟩
      go_simp
      exact ⟨_, rfl, Fr.refl _ _, rfl, trivial⟩
  · intro u w' hf hR kM
    have k0 : u 0 = _ := hR 0 (by omega)
    have k2 : u 2 = _ := hR 2 (by omega)
    clear hR kM
    simp only [List.take_succ_cons, List.take_zero, List.map_cons, List.map_nil, puts, Act.put, List.setIfInBounds_toArray, List.set_cons_zero, List.set_cons_succ, List.drop_succ_cons, List.drop_zero, Nat.reduceAdd, Nat.zero_add, k0, k2]
    have W4 : Hid (Wr w' gw (.slice none 0 0) [] 0) := W3.out.far hf (fun _ _ x => x)
    have B4 := Lib.hid (B3.out.fr hf (fun x => x))
    have F4 := Lib.hid (F3.out.trans hf)
    have HLL : Hid (LE.length ≤ 60000) := HE.out.len
    clear hf k0 k2 CL W3 B3 F3
    generalize w' = w4 at *
    go_wp2_with fail
    refine (wNumber_any gw _ _ 0 (LE.length : Int) _ W4.out (by simp) (by have := HLL.out; omega)).mono ?_
    rintro e w5 ⟨rfl, v5, st5⟩
    rw [wNumber_pos, List.nil_append] at st5
    have F45 : Hid (Fr Nothing w w5) := F4.out.then_ st5.fr (fun i hi e => by have e' := wrT_nil e; have := HGW; unfold Sz at this; omega)
    have B5 : Hid (Blk w5 g2 100 #[.pointer (some ⟨gw, 0, none⟩)]) := B4.out.fr st5.fr (fun e => blk_apart B4.out W4.out.blk (by decide) (wrT_nil e))
    have W5 := Lib.hid st5.wr
    have L5 : Hid (∀ k, v5.ownBlock = some k → w.heap.size ≤ k) := fun k hk => by
      rcases st5.lies k hk with h | h
      · simp [Value.ownBlock] at h
      · have := F4.out.size
        omega
    clear st5 F4 B4 W4
    go_wp2_with fail
    refine (CN.out _).mono ?_
    rintro r w6 ⟨rfl, f6, b6⟩
    have F6 := Lib.hid (F45.out.trans f6)
    have B6 := Lib.hid (B5.out.fr f6 (fun x => x))
    have W6 : Hid (Wr w6 gw v5 (enc LE.length) 0) := W5.out.far f6 (fun _ _ x => x)
    have G6 := Lib.hid b6
    have L6 : Hid (∀ k, v5.ownBlock = some k → w.heap.size ≤ k) := L5.out
    clear f6 b6 F45 B5 W5 L5
    generalize w5.heap.size = gs at *
    obtain ⟨a3, hs3, hn3⟩ := HS.out.fr0 F6.out
    obtain ⟨L, hL⟩ := OrdQ.of (P := InL LE) hn3 (fun g e he => by unfold InL; rw [← HET.out]; exact he)
    have LL : Hid (L.map ndVQ = LE) := hL.toL.trans HET.out
    have LZ : Hid (L.length = LE.length) := by simp only [Hid]; have h := congrArg List.length LL.out; simpa using h
    have HO := Lib.hid hL
    have HS3 := Lib.hid hs3
    clear hs3 hn3 hL
    go_wp2_with fail
    refine (wpIn_wide (n := 6)).1 ?_
    refine wpIn_rangeFunc_ownG rfl (by omega) (gf := 72) (lb := #[.pointer (some ⟨gs, 0, none⟩)]) rfl trivial (enters_of Tryd.func72 (by kernel_rfl) rfl)
      (nodes_stopsQ 5 gs s a3 t w6 (InL LE) L HO.out G6.out HS3.out) (fun h k => h.trans k) (fun W l o o' _ ho hc _ => KN.put W l o o' ho hc) (Below.refl _ _) (fun _ => rfl)
      (WrI w w6 g2 gw (fun ys : List (NdQ w6 (InL LE)) => encW LE.length ys)) (fun _ _ _ => False) (WrI.ownFrom F6.out.size) (fun _ _ _ _ _ h _ _ => h.elim)
      ⟨F6.out, KN.refl _, B6.out, v5, by simpa [encW] using W6.out, L6.out⟩ ?a1 ?assign ?body ?done ?stop
    case assign =>
      intro l x W K hK
      gi_wp2
      exact hK
    case body =>
      rintro l' pre x W hI hlt
      have HI := Lib.hid hI
      have HL := Lib.hid hlt
      obtain ⟨hfr, hkn, hbox, ⟨v, hwr, hlies⟩⟩ := hI
      have HFR := Lib.hid hfr
      have HWR := Lib.hid hwr
      have HLI := Lib.hid hlies
      have HBX := Lib.hid hbox
      have MX := Lib.hid (x.2.1.kn hkn).mid
      have PX : Hid ((x.1.nm, x.1.v) ∈ LE) := x.2.2
      have HNX := Lib.hid (encW_next LE.length pre x)
      have HNL : Hid ((encW LE.length (pre ++ [x])).length ≤ 250000000000 + 3000000) := by
        have h1 := HE.out.owner _ PX.out
        have h2 := HE.out.text _ PX.out
        have h3 := HE.out.value _ PX.out
        have h4 := nameL_length x.1.nm
        have h5 := enc_length (nameL x.1.nm).length
        have h6 := enc_length (strL x.1.v).length
        have h7 := strL_length x.1.v
        have h8 := encW_le LE.length pre (fun y => HE.out.owner _ y.2.2) (fun y => HE.out.text _ y.2.2) (fun y => HE.out.value _ y.2.2)
        have h9 := HL.out
        have h10 := LZ.out
        have h11 := HLL.out
        simp only at h1 h2 h3
        simp only [Hid]
        rw [encW_next]
        simp only [textB, List.length_append]
        omega
      have UW : Hid (UsaT W) := HU.out.fr0 hfr
      obtain ⟨y, hy⟩ : ∃ y : NdQ w6 (InL LE), y = x := ⟨x, rfl⟩
      have HYX := Lib.hid hy
      rw [← hy] at HNX HNL
      obtain ⟨⟨gx, nx, vx⟩, hx, hp⟩ := x
      rw [HYX.out] at HNX HNL
      simp only at MX PX HNX ⊢
      have CE : Hid (Calls Tryd.prog 51 #[.agg nx.cells.toArray] W (Same' W (.tuple #[.string ⟨(nameL nx).toArray⟩, .int .i64 0]))) := NEnc_any nx W UW.out (by have := HE.out.owner _ PX.out; simp only at this; omega) (by have := HE.out.text _ PX.out; simp only at this; omega) (HE.out.ok _ PX.out)
      have VX : Hid (vx.size ≤ 1048576) := HE.out.value _ PX.out
      have NLX : Hid ((nameL nx).length ≤ 3000000) := by
        have h1 := HE.out.owner _ PX.out
        have h2 := HE.out.text _ PX.out
        have h4 := nameL_length nx
        simp only at h1 h2
        simp only [Hid]
        omega
      clear hfr hkn hbox hwr hlies hy UW hlt
      gi_wp2_with (refine wpListIn_round1 (opLoads 36) rfl (by kernel_rfl) ?_)
      refine wpList_load_add rfl 36 (.tmp 22) rfl ⟨gx, 2, none⟩ rfl nx.cells _ ?hcc Tryd.underlying36 rfl infoName (Held.go ?hold)
      case hcc => exact fun j v hv => by rw [Addr.add_mid]; exact MX.out.name j v hv
      unfold Held
      go_wp2_with fail
      refine CE.out.mono ?_
      rintro e X1 ⟨rfl, f1⟩
      have WR1 : Hid (Wr X1 gw v (encW LE.length pre) 0) := HWR.out.far f1 (fun _ _ x => x)
      have BX1 := Lib.hid (HBX.out.fr f1 (fun x => x))
      have MX1 := Lib.hid (MX.out.fr0 f1)
      have FX1 := Lib.hid f1
      clear f1 CE
      go_wp2
      show Code.wpIn (Fence.wide.inRound l') (6 - 1 - 1) Tryd.prog _ _ _ _
      have c11 : X1.cell? ⟨g2, 0, none⟩ = some (.pointer (some ⟨gw, 0, none⟩)) := BX1.out.cell 0
      gi_wp2_with (refine wpListIn_round1 (opLoads 100) rfl (by kernel_rfl) ?_)
      have HPL : Hid ((encW LE.length pre).length ≤ 260000000000) := by
        have h := HNL.out
        rw [HNX.out] at h
        simp only [List.length_append] at h
        simp only [Hid]
        omega
      go_wp2_with fail
      refine (wText_any gw v _ 0 ⟨(nameL nx).toArray⟩ _ WR1.out (by have := HPL.out; omega) (by have := NLX.out; rw [← strL_length]; exact Nat.le_trans this (by decide))).mono ?_
      rintro e X2 ⟨rfl, v2, st2⟩
      rw [wText_small _ _ (by have h := NLX.out; have e : (⟨(nameL nx).toArray⟩ : ByteArray).size = (nameL nx).length := by rw [← strL_length]; rfl
                              omega), textB_mk] at st2
      have ST2 := Lib.hid st2
      have BX2 : Hid (Blk X2 g2 100 #[.pointer (some ⟨gw, 0, none⟩)]) := BX1.out.fr st2.fr (fun h => by
        rcases h with h | h
        · exact blk_apart BX1.out WR1.out.blk (by decide) h
        · exact own_blk_ne WR1.out.own BX1.out (by decide) h)
      have MX2 : Hid (Mid X2 gx nx vx) := ((⟨⟨gx, nx, vx⟩, hx, hp⟩ : NdQ w6 (InL LE)).2.1.kn ((HI.out.kn.trans (KN.fr FX1.out (fun _ _ _ x => x))).trans (KN.fr st2.fr (fun g cs hb h => by
        rcases h with h | h
        · exact blk_apart hb WR1.out.blk (by decide) h
        · exact own_blk_ne WR1.out.own hb (by decide) h)))).mid
      clear st2 c11 MX MX1 HPL
      go_wp2
      show Code.wpIn (Fence.wide.inRound l') (6 - 1 - 1) Tryd.prog _ _ _ _
      gi_wp2
      refine wpIn_round_st 5 Nothing [Is (.pointer (some ⟨gw, 0, none⟩)), Is (.pointer (some ⟨gx, 0, none⟩)), Is (.pointer (some ⟨gx, 0, none⟩)), Is (.pointer (some ⟨gx, 7, none⟩)), Is (.string vx)] [] (fun _ => True) (fun _ _ => false) (by kernel_rfl) (by kernel_rfl) (by kernel_rfl) (by kernel_rfl) (by kernel_rfl) ⟨Is.stable _, Is.stable _, Is.stable _, Is.stable _, Is.stable _, trivial⟩ trivial (fun _ _ _ _ h => h) trivial ?_ ?_
      · refine ⟨?a12_0, ?a12_1, ?a12_2, ?a12_3, ?a12_4, trivial⟩
        all_goals intro u w' d hf hR k1 k0 kM
        all_goals simp only [List.take_succ_cons, List.take_zero, List.map_cons, List.map_nil, puts, Act.put, List.setIfInBounds_toArray, List.set_cons_zero, List.set_cons_succ, Nat.reduceAdd, Nat.zero_add]
        case a12_0 =>
          clear hR k1 k0 kM
          refine .inl ⟨by kernel_rfl, ?_⟩
          have q : _ = some (Value.pointer (some ⟨gw, 0, none⟩)) := (BX2.out.fr hf (fun x => x)).cell 0
          go_simp
          exact ⟨_, rfl, Fr.refl _ _, rfl, trivial⟩
        case' a12_2 => simp only [show u 1 = _ from hR 1 (by kernel_rfl)]
        case' a12_3 => simp only [show u 2 = _ from hR 2 (by kernel_rfl)]
        case a12_4 =>
          simp only [show u 3 = _ from hR 3 (by kernel_rfl)]
          clear hR k1 k0 kM
          refine .inl ⟨by kernel_rfl, ?_⟩
          have q := (MX2.out.fr0 hf).val
          go_simp
          exact ⟨_, rfl, Fr.refl _ _, rfl, trivial⟩
        all_goals
          clear hR k1 k0 kM
          refine .inl ⟨by kernel_rfl, ?_⟩
          go_simp
          exact ⟨_, rfl, Fr.refl _ _, rfl, trivial⟩
      · intro u w' hf hR kM
        have k0 : u 0 = _ := hR 0 (by omega)
        have k4 : u 4 = _ := hR 4 (by omega)
        clear hR kM
        simp only [List.take_succ_cons, List.take_zero, List.map_cons, List.map_nil, puts, Act.put, List.setIfInBounds_toArray, List.set_cons_zero, List.set_cons_succ, List.drop_succ_cons, List.drop_zero, Nat.reduceAdd, Nat.zero_add, k0, k4]
        have ST3 : Hid (WrStep X1 gw v w' v2 (encW LE.length pre ++ textB (nameL nx), 0)) := ⟨ST2.out.wr.far hf (fun _ _ x => x), ST2.out.fr.trans hf.weak, ST2.out.lies⟩
        have HPL : Hid ((encW LE.length pre ++ textB (nameL nx)).length ≤ 260000000000) := by
          have h := HNL.out
          rw [HNX.out] at h
          simp only [List.length_append] at h ⊢
          simp only [Hid]
          omega
        clear hf k0 k4 ST2 BX2 MX2
        go_wp2_with fail
        refine (wText_any gw v2 _ 0 vx _ ST3.out.wr (by have := HPL.out; simp only; omega) (by have := VX.out; omega)).mono ?_
        rintro e X3 ⟨rfl, v3, st3⟩
        rw [wText_small _ _ (by have := VX.out; omega), textB_str] at st3
        have ST := Lib.hid (ST3.out.trans st3)
        clear st3
        go_wp2
        have ST' : WrStep X1 gw v X3 v3 (encW LE.length (pre ++ [(⟨⟨gx, nx, vx⟩, hx, hp⟩ : NdQ w6 (InL LE))]), 0) := by
          rw [HNX.out]
          exact ST.out
        exact WrI.step HI.out HGW HWR.out HLI.out FX1.out ST'
    case done =>
      rintro D xs W hD rfl hI hK
      obtain ⟨hf, hkn, hbox, ⟨v, hwr, hlies⟩⟩ := hI
      have PF : Fr (fun k => some k = some D) W (W.putObj D (.deferred none)) := Fr.grown (grownBy_putObj' W D _)
      have KD := Lib.hid hK
      have HF := Lib.hid hf
      have JW : Hid (Wr W gw v (encS LE) 0) := by
        have h : encW LE.length xs = encS LE := by rw [encW, LL.out]; rfl
        rw [← h]
        exact hwr
      have HDD : Hid (w.heap.size ≤ D ∧ D < W.heap.size) := ⟨by have := F6.out.size; have := hD; omega, (Array.getElem?_eq_some_iff.1 hK).1⟩
      have c11 := hbox.cell 0
      simp only [List.getElem?_toArray, List.getElem?_cons_zero] at c11
      clear PF hf hbox hwr hlies hD hK hkn
      go_wp2_with fail
      refine (wBytes_any gw _ _ _ _ JW.out (by have := HLEN.out; omega)).mono ?_
      rintro e w8 ⟨_, hx⟩
      obtain ⟨v8, rfl, hg8⟩ := hx rfl
      have KD8 : Hid (w8.heap[D]? = W.heap[D]?) := hg8.fr0.block D HDD.out.2 (fun x => x)
      have G8 := Lib.hid hg8
      obtain ⟨A8, n8, c8, rfl, _, _⟩ := own_slice hg8.own
      clear hg8 hx c11
      go_wp2
      rw [KD.out] at KD8
      refine ⟨by simp, .inl ⟨_, _, rfl, run_takeDeferred KD8.out, ?_⟩⟩
      refine ⟨_, results_tmp Tryd.results29 _ _ _, ?_⟩
      have PF : Fr (fun k => some k = some D) w8 (w8.putObj D (.deferred none)) := Fr.grown (grownBy_putObj' w8 D _)
      have JF : Fr Nothing w (w8.putObj D (.deferred none)) := (HF.out.trans G8.out.fr0).then_ PF (fun i hi e => by have e' : i = D := (by simpa using e); have := HDD.out.1; omega)
      refine ⟨_, rfl, ⟨own_fr G8.out.own PF (fun k hk e => ?_), JF.weak, fun k hk => .inr ?_⟩⟩
      · have e' : k = D := by simpa using e
        exact own_cells_ne G8.out.own KD8.out rfl (by rw [← e']; exact hk)
      · have := G8.out.new k hk
        have := HF.out.size
        omega
    case stop =>
      rintro D cd pre W hD _ h
      exact h.elim
end Go.Proofs.YtpnchdgplpdefaaDoor
