/- 'read': values read one after the other. -/
import Derived.Test.YtfopfhdijdefiaaReadB
import Derived.Test.YtfopfhdijdefiaaCodecV
import Derived.ChangeAlike
namespace Go.Proofs.Ytfopfhdijdefiaa
open Go.RowKit

abbrev RSt := List UInt8 × Nat × Int

def rV (st : RSt) (v : VV) : VV × RSt :=
  if v.kind % 4 = 0 then ({ kind := v.kind, n := (rStep 0 (pNumber v.most) st).1, is := false, s := ⟨#[]⟩, most := v.most }, (rStep 0 (pNumber v.most) st).2)
  else if v.kind % 4 = 1 then ({ kind := v.kind, n := (rStep 0 pSigned st).1, is := false, s := ⟨#[]⟩, most := v.most }, (rStep 0 pSigned st).2)
  else if v.kind % 4 = 2 then ({ kind := v.kind, n := 0, is := (rStep false pFlag st).1, s := ⟨#[]⟩, most := v.most }, (rStep false pFlag st).2)
  else ({ kind := v.kind, n := 0, is := false, s := ⟨(rStep [] (pText v.most) st).1.toArray⟩, most := v.most }, (rStep [] (pText v.most) st).2)

def readL (st : RSt) : List VV → List VV × RSt
  | [] => ([], st)
  | v :: l => ((rV st v).1 :: (readL (rV st v).2 l).1, (readL (rV st v).2 l).2)
def readK (st : RSt) (l : List VV) (k : Nat) : List VV × RSt := readL st (l.take k)

theorem readL_append (st : RSt) (l r : List VV) : readL st (l ++ r) = ((readL st l).1 ++ (readL (readL st l).2 r).1, (readL (readL st l).2 r).2) := by
  induction l generalizing st with
  | nil => simp [readL]
  | cons v l ih => simp [readL, ih]

theorem readK_snoc (st : RSt) (l : List VV) (k : Nat) (v : VV) (h : l[k]? = some v) : readK st l (k + 1) = ((readK st l k).1 ++ [(rV (readK st l k).2 v).1], (rV (readK st l k).2 v).2) := by
  have hk : k < l.length := (List.getElem?_eq_some_iff.1 h).1
  have he : l[k] = v := (List.getElem?_eq_some_iff.1 h).2
  unfold readK
  rw [List.take_succ_eq_append_getElem hk, he, readL_append]
  simp [readL]

theorem readL_length (st : RSt) (l : List VV) : (readL st l).1.length = l.length := by
  induction l generalizing st with
  | nil => rfl
  | cons v l ih => simp [readL, ih]

/-- What 'read' leaves. -/
structure ReadS (w : World) (g : Nat) (S : Nat → Prop) (w' : World) (v' : Value) (r : List VV × RSt) : Prop where
  own : w'.ownsRow 0 47 5 v' r.1.length (vcells r.1)
  new : ∀ k, v'.ownBlock = some k → w.heap.size ≤ k
  rr : Rr w' g S r.2.1 r.2.2.1 r.2.2.2
  fr : Fr (Only g) w w'

def SomeRead (w : World) (g : Nat) (S : Nat → Prop) (r : List VV × RSt) (e : Ending) (w' : World) : Prop := ∃ v', e = .returned v' ∧ ReadS w g S w' v' r

section
variable {w wr w1 w2 w4 : World} {g gV j : Nat} {S : Nat → Prop} {v v4 u : Value} {r : List VV × RSt} {V : VV} {st' : RSt}
theorem ReadS.own3 (hs : ReadS w g S wr v r) (hg : g < w.heap.size) (h1 : Fr Nothing wr w1) (hV : wr.heap.size ≤ gV) (h2 : Fr (Only g) w1 w2) : (w2.setCell ⟨gV, j, none⟩ u).ownsRow 0 47 5 v r.1.length (vcells r.1) := by
  have e1 := own_fr hs.own h1 (fun _ _ x => x)
  have e2 := own_fr e1 h2 (fun k hk e => by have := hs.new k hk; unfold Only at e; omega)
  exact own_fr e2 ((Fr.refl (Only gV) _).setCell (p := ⟨gV, j, none⟩) (fun _ => (rfl : Only gV gV)) u) (fun k hk e => by have := (hs.own.lt k hk).2; unfold Only at e; omega)

theorem ReadS.next (hs : ReadS w g S wr v r) (hg : g < w.heap.size) (hS : ∀ k, S k → k < w.heap.size) (h1 : Fr Nothing wr w1) (hV : wr.heap.size ≤ gV) (h2 : RrStep w1 g S w2 st'.1 st'.2.1 st'.2.2)
    (hG : Grew 47 5 (w2.setCell ⟨gV, j, none⟩ u) v w4 v4 (r.1.length + 1) (vcells r.1 ++ V.cells)) : ReadS w g S w4 v4 (r.1 ++ [V], st') := by
  have hsz : w.heap.size ≤ wr.heap.size := hs.fr.size
  have f3 : Fr (Only gV) w2 (w2.setCell ⟨gV, j, none⟩ u) := (Fr.refl (Only gV) _).setCell (p := ⟨gV, j, none⟩) (fun _ => (rfl : Only gV gV)) u
  have r3 := h2.rr.keep f3 (fun e => by unfold Only at e; omega) (fun k hk e => by have := hS k hk; unfold Only at e; omega)
  have r4 := r3.keep hG.fr (fun e => by have := hs.new _ e; omega) (fun k hk e => by have := hS k hk; have := hs.new _ e; omega)
  refine ⟨?_, fun k hk => ?_, r4, ?_⟩
  · have := hG.own
    simp only [List.length_append, List.length_singleton, vcells_snoc]
    exact this
  · rcases hG.lies k hk with h | h
    · exact hs.new k h
    · have := f3.size
      have := h2.fr.size
      have := h1.size
      omega
  · refine (((hs.fr.trans (h1.weak)).trans h2.fr).then_ f3 (fun i hi e => by unfold Only at e; omega)).then_ hG.fr (fun i hi e => by have := hs.new _ e; omega)
end

set_option maxRecDepth 100000 in
set_option maxHeartbeats 2000000 in
theorem read_any (g : Nat) (S : Nat → Prop) (st : RSt) (A : Option Addr) (n c : Nat) (l : List VV) (w : World) (S2 : Nat → Prop) (h : Rr w g S st.1 st.2.1 st.2.2) (hr : Rd w S2 5 A n (vcells l)) (hd : ∀ k, S2 k → ¬ Only g k)
    (hS : ∀ k, S k → k < w.heap.size) (hok : ∀ v ∈ l, v.ok) (hn : n ≤ 1000) :
    Calls Try.prog 26 #[.pointer (some ⟨g, 0, none⟩), .slice A n c] w (SomeRead w g S (readL st l)) := by
  obtain ⟨i0, hi, hz0, hz1, hz2⟩ := info_parts info_V
  have hlen : l.length = n := by have := hr.1; rw [vcells_length] at this; omega
  have HL := Lib.hid hlen
  clear hlen
  have HR := Lib.hid hr
  have HK := Lib.hid hok
  have HH := Lib.hid h
  have HD := Lib.hid hd
  have HSS := Lib.hid hS
  clear hr hok h hd hS
  go_enter Try.func26, Try.ntmps26
  go_wp2
  go_loopw [5, 6] (fun v' i wr => ∃ k : Nat, k ≤ n ∧ i = .int .i64 k ∧ ReadS w g S wr v' (readK st l k)) (fun _ i _ => n - (intOf i).toNat)
  case atStart => exact ⟨0, Nat.zero_le _, rfl, World.ownsRow_nil _ _ _ _, by simp [Value.ownBlock], HH.out, Fr.refl _ _⟩
  case round =>
    obtain ⟨k, hk, rfl, hs⟩ := hrel
    have HS := Lib.hid hs
    clear hs
    by_cases hlt : k < n
    · obtain ⟨v, hv⟩ : ∃ v, l[k]? = some v := ⟨_, List.getElem?_eq_getElem (by rw [HL.out]; exact hlt)⟩
      obtain ⟨ad, rfl, hsb, hc⟩ := HR.out.vat hv
      have HV := Lib.hid (readK_snoc st l k v hv)
      have hvo := HK.out v (List.mem_of_getElem? hv)
      have hw : ∀ j u, v.cells[j]? = some u → wr.cell? ((ad.add (k * 5)).add j) = some u := fun j u hu => HS.out.fr.cellSome (hc j u hu) (by rw [block_of_add, block_of_add]; exact HD.out _ hsb)
      have c0 : wr.cell? (ad.add (k * 5)) = _ := hw 0 _ rfl
      have c4 : wr.cell? ⟨(ad.add (k * 5)).block, (ad.add (k * 5)).off + 4, none⟩ = _ := hw 4 _ rfl
      have hkeep : ∀ {p : Addr} {u : Value} (o : Obj), wr.cell? p = some u → (wr.alloc o).cell? p = some u := fun o h => (World.cell?_alloc_lt wr o _ (World.block_lt_of_cell? wr _ h)).trans h
      have d0 := hkeep (.cells #[.int .u8 0, .int .i64 0, .bool false, .string ⟨#[]⟩, .int .i64 0] 47) c0
      have d4 := hkeep (.cells #[.int .u8 0, .int .i64 0, .bool false, .string ⟨#[]⟩, .int .i64 0] 47) c4
      clear hkeep
      have hki : (k : Int) < (n : Int) := by omega
      have hkind := hvo.kind
      clear hc hw hv
      have HGL := Lib.hid HH.out.lt
      have hlk : (readK st l k).1.length ≤ 1000 := by unfold readK; rw [readL_length]; simp; omega
      go_wp2_with fail
      go_region
      have HF1 : Hid (Fr Nothing wr (wr.alloc (.cells #[.int .u8 v.kind, .int .i64 0, .bool false, .string ⟨#[]⟩, .int .i64 v.most] 47)).drew) := ((Fr.refl _ _).alloc _).drew
      have HBV : Hid (Blk (wr.alloc (.cells #[.int .u8 v.kind, .int .i64 0, .bool false, .string ⟨#[]⟩, .int .i64 v.most] 47)).drew wr.heap.size 47 #[.int .u8 v.kind, .int .i64 0, .bool false, .string ⟨#[]⟩, .int .i64 v.most]) := Blk.new wr _ _
      have HRr := Lib.hid (HS.out.rr.keep0 HF1.out)
      have b0 : (wr.alloc (.cells #[.int .u8 v.kind, .int .i64 0, .bool false, .string ⟨#[]⟩, .int .i64 v.most] 47)).drew.cell? ⟨wr.heap.size, 0, none⟩ = some (.int .u8 v.kind) := HBV.out.cell 0
      have b4 : (wr.alloc (.cells #[.int .u8 v.kind, .int .i64 0, .bool false, .string ⟨#[]⟩, .int .i64 v.most] 47)).drew.cell? ⟨wr.heap.size, 4, none⟩ = some (.int .i64 v.most) := HBV.out.cell 4
      generalize (wr.alloc (.cells #[.int .u8 v.kind, .int .i64 0, .bool false, .string ⟨#[]⟩, .int .i64 v.most] 47)).drew = w1 at HF1 HBV HRr b0 b4 ⊢
      clear c0 c4 d0 d4
      generalize hst : readK st l k = r at HS HV hlk HRr
      clear hst
      have hcase : v.kind % 4 = 0 ∨ v.kind % 4 = 1 ∨ v.kind % 4 = 2 ∨ v.kind % 4 = 3 := by omega
      rcases hcase with hm | hm | hm | hm
      · have t0 : ((v.kind : Int) % 4 == 0) = true := beq_iff_eq.2 (by omega)
        have HRV : Hid (rV r.2 v = ({ kind := v.kind, n := (rStep 0 (pNumber v.most) r.2).1, is := false, s := ⟨#[]⟩, most := v.most }, (rStep 0 (pNumber v.most) r.2).2)) := by
          simp only [Hid, rV]
          rw [if_pos hm]
        clear hm
        go_wp2_with fail
        refine (rNumber_any g S r.2.1 r.2.2.1 r.2.2.2 v.most _ HRr.out).mono ?_
        rintro e w2 ⟨rfl, h2⟩
        change RrStep w1 g S w2 (rStep 0 (pNumber v.most) r.2).2.1 (rStep 0 (pNumber v.most) r.2).2.2.1 (rStep 0 (pNumber v.most) r.2).2.2.2 at h2
        generalize rStep 0 (pNumber v.most) r.2 = q at h2 HRV ⊢
        have HS2 := Lib.hid h2
        have HB2 := Lib.hid (HBV.out.fr h2.fr (fun e => by unfold Only at e; have := HGL.out; have := HS.out.fr.size; omega))
        have e0 : w2.cell? ⟨wr.heap.size, 0, none⟩ = some (.int .u8 v.kind) := HB2.out.cell 0
        have e1 : w2.cell? ⟨wr.heap.size, 1, none⟩ = some (.int .i64 0) := HB2.out.cell 1
        have e2 : w2.cell? ⟨wr.heap.size, 2, none⟩ = some (.bool false) := HB2.out.cell 2
        have e3 : w2.cell? ⟨wr.heap.size, 3, none⟩ = some (.string ⟨#[]⟩) := HB2.out.cell 3
        have e4 : w2.cell? ⟨wr.heap.size, 4, none⟩ = some (.int .i64 v.most) := HB2.out.cell 4
        have f1 := HB2.out.frozen 1
        clear h2
        go_wp2_with (at_builtin; refine wpList_app1 _ rfl _ _ 32 rfl 47 i0 _ 5 48 Try.underlying32 hi hz0 hz1 hz2 rfl (by omega) _ _ _ rfl (HS.out.own3 HGL.out HF1.out (Nat.le_refl _) HS2.out.fr) 1 _ _ (by simp [World.setCell]) rfl rfl (by simp [Value.oneCell']) (by omega) (by omega) ?_)
        intro v4 w4 hg4
        have HN : Hid (ReadS w g S w4 v4 (readK st l (k + 1))) := by
          rw [HV.out, HRV.out]
          exact HS.out.next HGL.out HSS.out HF1.out (Nat.le_refl _) HS2.out hg4
        clear hg4
        go_wp2
        go_roundw
        case rel => exact ⟨k + 1, by omega, by go_num, HN.out⟩
        case measure => simp [intOf]; omega
      · have t0 : ((v.kind : Int) % 4 == 0) = false := beq_eq_false_iff_ne.2 (by omega)
        have t1 : ((v.kind : Int) % 4 == 1) = true := beq_iff_eq.2 (by omega)
        have HRV : Hid (rV r.2 v = ({ kind := v.kind, n := (rStep 0 pSigned r.2).1, is := false, s := ⟨#[]⟩, most := v.most }, (rStep 0 pSigned r.2).2)) := by
          simp only [Hid, rV]
          rw [if_neg (by omega), if_pos hm]
        clear hm
        go_wp2_with fail
        refine (rSigned_any g S r.2.1 r.2.2.1 r.2.2.2 _ HRr.out).mono ?_
        rintro e w2 ⟨rfl, h2⟩
        change RrStep w1 g S w2 (rStep 0 pSigned r.2).2.1 (rStep 0 pSigned r.2).2.2.1 (rStep 0 pSigned r.2).2.2.2 at h2
        generalize rStep 0 pSigned r.2 = q at h2 HRV ⊢
        have HS2 := Lib.hid h2
        have HB2 := Lib.hid (HBV.out.fr h2.fr (fun e => by unfold Only at e; have := HGL.out; have := HS.out.fr.size; omega))
        have e0 : w2.cell? ⟨wr.heap.size, 0, none⟩ = some (.int .u8 v.kind) := HB2.out.cell 0
        have e1 : w2.cell? ⟨wr.heap.size, 1, none⟩ = some (.int .i64 0) := HB2.out.cell 1
        have e2 : w2.cell? ⟨wr.heap.size, 2, none⟩ = some (.bool false) := HB2.out.cell 2
        have e3 : w2.cell? ⟨wr.heap.size, 3, none⟩ = some (.string ⟨#[]⟩) := HB2.out.cell 3
        have e4 : w2.cell? ⟨wr.heap.size, 4, none⟩ = some (.int .i64 v.most) := HB2.out.cell 4
        have f1 := HB2.out.frozen 1
        clear h2
        go_wp2_with (at_builtin; refine wpList_app1 _ rfl _ _ 32 rfl 47 i0 _ 5 48 Try.underlying32 hi hz0 hz1 hz2 rfl (by omega) _ _ _ rfl (HS.out.own3 HGL.out HF1.out (Nat.le_refl _) HS2.out.fr) 1 _ _ (by simp [World.setCell]) rfl rfl (by simp [Value.oneCell']) (by omega) (by omega) ?_)
        intro v4 w4 hg4
        have HN : Hid (ReadS w g S w4 v4 (readK st l (k + 1))) := by
          rw [HV.out, HRV.out]
          exact HS.out.next HGL.out HSS.out HF1.out (Nat.le_refl _) HS2.out hg4
        clear hg4
        go_wp2
        go_roundw
        case rel => exact ⟨k + 1, by omega, by go_num, HN.out⟩
        case measure => simp [intOf]; omega
      · have t0 : ((v.kind : Int) % 4 == 0) = false := beq_eq_false_iff_ne.2 (by omega)
        have t1 : ((v.kind : Int) % 4 == 1) = false := beq_eq_false_iff_ne.2 (by omega)
        have t2 : ((v.kind : Int) % 4 == 2) = true := beq_iff_eq.2 (by omega)
        have HRV : Hid (rV r.2 v = ({ kind := v.kind, n := 0, is := (rStep false pFlag r.2).1, s := ⟨#[]⟩, most := v.most }, (rStep false pFlag r.2).2)) := by
          simp only [Hid, rV]
          rw [if_neg (by omega), if_neg (by omega), if_pos hm]
        clear hm
        go_wp2_with fail
        refine (rFlag_any g S r.2.1 r.2.2.1 r.2.2.2 _ HRr.out).mono ?_
        rintro e w2 ⟨rfl, h2⟩
        change RrStep w1 g S w2 (rStep false pFlag r.2).2.1 (rStep false pFlag r.2).2.2.1 (rStep false pFlag r.2).2.2.2 at h2
        generalize rStep false pFlag r.2 = q at h2 HRV ⊢
        have HS2 := Lib.hid h2
        have HB2 := Lib.hid (HBV.out.fr h2.fr (fun e => by unfold Only at e; have := HGL.out; have := HS.out.fr.size; omega))
        have e0 : w2.cell? ⟨wr.heap.size, 0, none⟩ = some (.int .u8 v.kind) := HB2.out.cell 0
        have e1 : w2.cell? ⟨wr.heap.size, 1, none⟩ = some (.int .i64 0) := HB2.out.cell 1
        have e2 : w2.cell? ⟨wr.heap.size, 2, none⟩ = some (.bool false) := HB2.out.cell 2
        have e3 : w2.cell? ⟨wr.heap.size, 3, none⟩ = some (.string ⟨#[]⟩) := HB2.out.cell 3
        have e4 : w2.cell? ⟨wr.heap.size, 4, none⟩ = some (.int .i64 v.most) := HB2.out.cell 4
        have f2 := HB2.out.frozen 2
        clear h2
        go_wp2_with (at_builtin; refine wpList_app1 _ rfl _ _ 32 rfl 47 i0 _ 5 48 Try.underlying32 hi hz0 hz1 hz2 rfl (by omega) _ _ _ rfl (HS.out.own3 HGL.out HF1.out (Nat.le_refl _) HS2.out.fr) 1 _ _ (by simp [World.setCell]) rfl rfl (by simp [Value.oneCell']) (by omega) (by omega) ?_)
        intro v4 w4 hg4
        have HN : Hid (ReadS w g S w4 v4 (readK st l (k + 1))) := by
          rw [HV.out, HRV.out]
          exact HS.out.next HGL.out HSS.out HF1.out (Nat.le_refl _) HS2.out hg4
        clear hg4
        go_wp2
        go_roundw
        case rel => exact ⟨k + 1, by omega, by go_num, HN.out⟩
        case measure => simp [intOf]; omega
      · have t0 : ((v.kind : Int) % 4 == 0) = false := beq_eq_false_iff_ne.2 (by omega)
        have t1 : ((v.kind : Int) % 4 == 1) = false := beq_eq_false_iff_ne.2 (by omega)
        have t2 : ((v.kind : Int) % 4 == 2) = false := beq_eq_false_iff_ne.2 (by omega)
        have HRV : Hid (rV r.2 v = ({ kind := v.kind, n := 0, is := false, s := ⟨(rStep [] (pText v.most) r.2).1.toArray⟩, most := v.most }, (rStep [] (pText v.most) r.2).2)) := by
          simp only [Hid, rV]
          rw [if_neg (by omega), if_neg (by omega), if_neg (by omega)]
        clear hm
        go_wp2_with fail
        refine (rText_any g S r.2.1 r.2.2.1 r.2.2.2 v.most _ HRr.out).mono ?_
        rintro e w2 ⟨rfl, h2⟩
        change RrStep w1 g S w2 (rStep [] (pText v.most) r.2).2.1 (rStep [] (pText v.most) r.2).2.2.1 (rStep [] (pText v.most) r.2).2.2.2 at h2
        generalize rStep [] (pText v.most) r.2 = q at h2 HRV ⊢
        have HS2 := Lib.hid h2
        have HB2 := Lib.hid (HBV.out.fr h2.fr (fun e => by unfold Only at e; have := HGL.out; have := HS.out.fr.size; omega))
        have e0 : w2.cell? ⟨wr.heap.size, 0, none⟩ = some (.int .u8 v.kind) := HB2.out.cell 0
        have e1 : w2.cell? ⟨wr.heap.size, 1, none⟩ = some (.int .i64 0) := HB2.out.cell 1
        have e2 : w2.cell? ⟨wr.heap.size, 2, none⟩ = some (.bool false) := HB2.out.cell 2
        have e3 : w2.cell? ⟨wr.heap.size, 3, none⟩ = some (.string ⟨#[]⟩) := HB2.out.cell 3
        have e4 : w2.cell? ⟨wr.heap.size, 4, none⟩ = some (.int .i64 v.most) := HB2.out.cell 4
        have f3 := HB2.out.frozen 3
        clear h2
        unfold tV
        go_wp2_with (at_builtin; refine wpList_app1 _ rfl _ _ 32 rfl 47 i0 _ 5 48 Try.underlying32 hi hz0 hz1 hz2 rfl (by omega) _ _ _ rfl (HS.out.own3 HGL.out HF1.out (Nat.le_refl _) HS2.out.fr) 1 _ _ (by simp [World.setCell]) rfl rfl (by simp [Value.oneCell']) (by omega) (by omega) ?_)
        intro v4 w4 hg4
        have HN : Hid (ReadS w g S w4 v4 (readK st l (k + 1))) := by
          rw [HV.out, HRV.out]
          exact HS.out.next HGL.out HSS.out HF1.out (Nat.le_refl _) HS2.out hg4
        clear hg4
        go_wp2
        go_roundw
        case rel => exact ⟨k + 1, by omega, by go_num, HN.out⟩
        case measure => simp [intOf]; omega
    · have HE : Hid (readK st l k = readL st l) := by
        simp only [Hid, readK]
        rw [List.take_of_length_le (by rw [HL.out]; omega)]
      go_wp2
      go_ret
      exact ⟨_, rfl, by rw [← HE.out]; exact HS.out⟩
end Go.Proofs.Ytfopfhdijdefiaa
