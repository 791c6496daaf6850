/- State: Of (written by genSbO.py). -/
import Derived.Test.YtpnchdgplpdefaaGreatDoorEnScq
namespace Go.Proofs.YtpnchdgplpdefaaGreatDoor
open Go.RowKit Go.Shelf
def headSr (P : Program) (ops : Array Oper) (Q : Exit → Act → World → Prop) (T : Nat → Prop) (w : World) (F : (Nat → Value) → Act) (R : Nat → Value → World → Prop) (ws : List (Nat × (World → Prop))) (M0 : World → Prop) (B : Nat → Nat → Bool) (n : Nat) (I : List (Nat × Value)) : Nat → List Oper → Prop
 | _, [] => True
 | i, o :: r => (∀ u w' d, Fr T w w' → (∀ j, Region.waitsFor .any ops i j = true → R j (u j) w') → (∀ p, p < n → B p i = true → d p = true) → (∀ p, (p == i || B i p) = true → d p = false) → stage ws M0 d w' → (∀ x ∈ I, d x.1 = false → u x.1 = x.2) →
   wpW P ops Q o (F u) w' (OneSt (F u) o.dst (turnedW ws T i) w' (R i) (afterW ws i))) ∧ headSr P ops Q T w F R ws M0 B n I (i + 1) r
theorem headSr.at_ {P : Program} {ops : Array Oper} {Q : Exit → Act → World → Prop} {T : Nat → Prop} {w : World} {F : (Nat → Value) → Act} {R : Nat → Value → World → Prop} {ws : List (Nat × (World → Prop))} {M0 : World → Prop} {B : Nat → Nat → Bool} {n : Nat} {I : List (Nat × Value)} :
  ∀ {l : List Oper} {k : Nat}, headSr P ops Q T w F R ws M0 B n I k l → ∀ i o, l[i]? = some o → ∀ u w' d, Fr T w w' → (∀ j, Region.waitsFor .any ops (k + i) j = true → R j (u j) w') → (∀ p, p < n → B p (k + i) = true → d p = true) → (∀ p, (p == k + i || B (k + i) p) = true → d p = false) → stage ws M0 d w' → (∀ x ∈ I, d x.1 = false → u x.1 = x.2) →
   wpW P ops Q o (F u) w' (OneSt (F u) o.dst (turnedW ws T (k + i)) w' (R (k + i)) (afterW ws (k + i)))
 | [], _, _, _, _, h => by simp at h
 | o' :: r, k, h, 0, o, ho => by
  have : o' = o := by simpa using ho
  subst this
  exact h.1
 | o' :: r, k, h, i + 1, o, ho => by
  have := headSr.at_ h.2 i o (by simpa using ho)
  rw [show k + 1 + i = k + (i + 1) by omega] at this
  exact this
theorem sr_go {P : Program} {ops : Array Oper} {Q : Exit → Act → World → Prop} {T : Nat → Prop} {w : World} {a : Act} {RL : List (Value → World → Prop)} {ws : List (Nat × (World → Prop))} {M0 : World → Prop} {B : Nat → Nat → Bool} {n : Nat} {I : List (Nat × Value)} (ok : GrowS ops n) (hB : beforeB ops n B = true)
  (hch : (chainP B (ws.map (·.1)) && (ws.map (·.1)).all (fun p => decide (p < n))) = true)
  (hst : StableL T w RL) (hsw : StableW T w ws) (hs0 : ∀ w' w'', Fr T w w' → Fr Nothing w' w'' → M0 w' → M0 w'')
  (hh : headSr P ops Q T w (fun u => puts ((ops.toList.take n).map (·.dst)) 0 u a) (factOf RL) ws M0 B n I 0 (ops.toList.take n))
  (ht : ∀ u w', Fr T w w' → (∀ j, j < n → factOf RL j (u j) w') → lastW ws M0 w' → wpList P ops Q (ops.toList.drop n) (puts ((ops.toList.take n).map (·.dst)) 0 u a) w') :
  ∀ (f : Nat) (listed : Array Bool) (u : Nat → Value) (w' : World), HeadInv .any ops n listed → countU (fun j => !listed.getD j false) n = f → Fr T w w' → stage ws M0 (fun j => listed.getD j false) w' →
   (∀ j, j < n → listed.getD j false = true → factOf RL j (u j) w') → (∀ x ∈ I, listed.getD x.1 false = false → u x.1 = x.2) → wpAny P .any ops Q (f + (ops.size - n)) listed (puts ((ops.toList.take n).map (·.dst)) 0 u a) w' := by
 rw [Bool.and_eq_true] at hch
 have hlt : ∀ x ∈ ws, x.1 < n := fun x hx => by simpa using List.all_eq_true.1 hch.2 x.1 (List.mem_map.2 ⟨x, hx, rfl⟩)
 intro f
 induction f with
 | zero =>
  intro listed u w' inv hc hf hM hR hI
  have hall : ∀ j, j < n → listed.getD j false = true := fun j hj => by simpa using countU_zero _ n hc j hj
  have he : listed = Array.replicate n true ++ Array.replicate (ops.size - n) false := by
   apply Array.ext
   ·rw [inv.size]; have := ok.le; simp; omega
   ·intro i h1 h2
    rcases Nat.lt_or_ge i n with hi | hi
    ·have := hall i hi
     rw [Array.getElem_append_left (by simpa using hi)]
     simpa [h1] using this
    ·have := inv.tail i hi (by rw [← inv.size]; exact h1)
     rw [Array.getElem_append_right (by simpa using hi)]
     simpa [h1] using this
  rw [stage_all ws M0 _ (fun x hx => hall x.1 (hlt x hx))] at hM
  subst he
  have hdl : (ops.toList.drop n).length = ops.size - n := by simp
  have := wpAny_of_seq (P := P) (md := .any) (ops := ops) (Q' := Q) (ops.toList.drop n) n _ (puts ((ops.toList.take n).map (·.dst)) 0 u a) w' (fun j => by simp [List.getElem?_drop]) (by rw [hdl]; exact ok.seq) (ht u w' hf (fun j hj => hR j hj (hall j hj)) hM)
  rw [hdl] at this
  rwa [Nat.zero_add]
 | succ f ih =>
  intro listed u w' inv hc hf hM hR hI
  obtain ⟨j, hj, hun, hless⟩ := countU_pos (fun j => !listed.getD j false) n (by omega)
  have hjs : j < ops.size := by have := ok.le; omega
  have hunj : listed.getD j true = false := getD_in (by rw [inv.size]; exact hjs) (by simpa using hun)
  have hjr : j ∈ Region.ready .any ops listed := by
   refine mem_ready.2 ⟨hunj, ops[j], Array.getElem?_eq_getElem hjs, fun e he hb => ?_⟩
   have := ok.each j _ hj (Array.getElem?_eq_getElem hjs) e he hb
   simpa using hless e.on this
  rw [show f + 1 + (ops.size - n) = (f + (ops.size - n)) + 1 by omega]
  refine ⟨fun h0 => (by rw [h0] at hjr; cases hjr), fun i hi => ?_⟩
  obtain ⟨hiu, o, ho, hpre⟩ := mem_ready.1 hi
  have his : i < ops.size := (Array.getElem?_eq_some_iff.1 ho).1
  have hin : i < n := by
   rcases ok.tail with h | ⟨hs, hcn⟩
   ·omega
   ·rcases Nat.lt_or_ge i n with h | h
    ·exact h
    ·exact absurd hi (tail_waits hs hcn (by omega) inv (n - j) j rfl hj hunj i h)
  have hiF : listed.getD i false = false := getD_both hiu
  have hol : (ops.toList.take n)[i]? = some o := by rw [List.getElem?_take, if_pos hin]; simpa using ho
  have hwaits : ∀ k, Region.waitsFor .any ops i k = true → k < i ∧ listed.getD k false = true := by
   intro k hk
   obtain ⟨o', ho', e, he, hb, hon⟩ := Region.waitsFor_spec hk
   have : o' = o := Option.some.inj (ho'.symm.trans ho)
   subst this
   subst hon
   exact ⟨ok.each i _ hin ho e he hb, hpre e he hb⟩
  have hbefore : ∀ p, p < n → B p i = true → listed.getD p false = true := by
   intro p hp hb
   have h := List.all_eq_true.1 (List.all_eq_true.1 hB i (List.mem_range.2 hin)) p (List.mem_range.2 hp)
   simp only [hb, Bool.not_true, Bool.false_or, Bool.or_eq_true, List.any_eq_true, Bool.and_eq_true, List.mem_range] at h
   rcases h with h | ⟨k, hk, hw, hbk⟩
   ·exact (hwaits p h).2
   ·exact listed_before hB inv k (by omega) (hwaits k hw).2 p hp hbk
  have hbehind : ∀ p, (p == i || B i p) = true → listed.getD p false = false := by
   intro p hp
   simp only [Bool.or_eq_true, beq_iff_eq] at hp
   rcases hp with rfl | hb
   ·exact hiF
   ·rcases Nat.lt_or_ge p n with hpn | hpn
    ·cases hl : listed.getD p false
     ·rfl
     ·have := listed_before hB inv p hpn hl i hin hb
      rw [hiF] at this
      cases this
    ·rcases Nat.lt_or_ge p ops.size with h' | h'
     ·exact getD_both (inv.tail p hpn h')
     ·have : ¬ p < listed.size := by rw [inv.size]; omega
      simp [this]
  have hw := hh.at_ i o hol u w' (fun j => listed.getD j false) hf (fun k hk => by
   rw [Nat.zero_add] at hk
   exact hR k (by have := (hwaits k hk).1; omega) (hwaits k hk).2) (fun p hp hb => by rw [Nat.zero_add] at hb; exact hbefore p hp hb) (fun p hp => by rw [Nat.zero_add] at hp; exact hbehind p hp) hM hI
  rw [Nat.zero_add] at hw
  refine wpOp_of_wpW ho (wpW_mono (fun a' w'' hK => ?_) hw)
  obtain ⟨v, rfl, hf', hRi, hMi⟩ := hK
  have hfT : Fr T w' w'' := by
   unfold turnedW at hf'
   split at hf'
   ·exact hf'
   ·exact hf'.weak
  rw [puts_put2 _ 0 i u a o.dst v ok.nodup (by rw [List.getElem?_map, hol]; rfl), Nat.zero_add]
  have hset : (listed.setIfInBounds i true).getD i false = true := by
   have hi' : i < listed.size := by rw [inv.size]; exact his
   simp [hi']
  refine ih (listed.setIfInBounds i true) (updV u i v) w'' (inv.set hi hin) ?_ (hf.trans hfT) ?_ (fun k hk hl => ?_) (fun x hx hl => ?_)
  ·have := countU_less (fun j => !listed.getD j false) (fun j => !(listed.setIfInBounds i true).getD j false) i (by simp only [hiF]; rfl) (by simp only [hset]; rfl) (fun j hj => by simp only [getD_set_ne false (Ne.symm hj)]) n hin
   omega
  ·cases hwr : writesB ws i
   ·have hfN : Fr Nothing w' w'' := by simpa [turnedW, hwr] using hf'
    have hcg := stage_congr ws M0 (fun j => (listed.setIfInBounds i true).getD j false) (fun j => listed.getD j false) (fun x hx => by
     have : i ≠ x.1 := by
      rintro rfl
      have : writesB ws x.1 = true := by
       simp only [writesB, List.any_eq_true, beq_iff_eq]
       exact ⟨x.1, List.mem_map.2 ⟨x, hx, rfl⟩, rfl⟩
      rw [hwr] at this
      cases this
     simp only [getD_set_ne false this])
    rw [hcg]
    exact stage_stable hf hfN ws M0 _ hsw hs0 hM
   ·exact stage_write B i (fun j => listed.getD j false) _ w'' hset (fun q hq => by simp only [getD_set_ne false (Ne.symm hq)]) ws M0 hch.1 hwr (fun x hx hb => hbefore x.1 (hlt x hx) hb) (fun x hx hb => hbehind x.1 (by rw [hb, Bool.or_true])) hMi
  ·by_cases e : k = i
   ·subst e
    simp only [updV, if_true]
    exact hRi
   ·simp only [updV]
    rw [if_neg e]
    rw [getD_set_ne false (fun h => e h.symm)] at hl
    exact hst.at_ k (u k) w' w'' hf hfT (hR k hk hl)
  ·by_cases e : x.1 = i
   ·rw [e] at hl
    rw [hset] at hl
    cases hl
   ·simp only [updV]
    rw [if_neg e]
    rw [getD_set_ne false (fun h => e h.symm)] at hl
    exact hI x hx hl
theorem wp_region_sr {P : Program} {id : Nat} {Q : Exit → Act → World → Prop} {a : Act} {w : World} {l : List Oper} (I : List (Nat × Value)) (hI : ∀ u, puts (l.map (·.dst)) 0 u a = a → ∀ x ∈ I, u x.1 = x.2) (n : Nat) (T : Nat → Prop) (RL : List (Value → World → Prop)) (ws : List (Nat × (World → Prop))) (M0 : World → Prop) (B : Nat → Nat → Bool) (hn : (l.take n).map (·.dst) = l.map (·.dst)) (hm : P.follows .mixedOrders = true) (hg : growS l.toArray n = true)
  (hB : beforeB l.toArray n B = true) (hch : (chainP B (ws.map (·.1)) && (ws.map (·.1)).all (fun p => decide (p < n))) = true)
  (hst : StableL T w RL) (hsw : StableW T w ws) (hs0 : ∀ w' w'', Fr T w w' → Fr Nothing w' w'' → M0 w' → M0 w'') (h0 : M0 w.drew)
  (hh : headSr P l.toArray Q T w (fun u => puts ((l.take n).map (·.dst)) 0 u a) (factOf RL) ws M0 B n I 0 (l.take n))
  (ht : ∀ u w', Fr T w w' → (∀ j, j < n → factOf RL j (u j) w') → lastW ws M0 w' → wpList P l.toArray Q (l.drop n) (puts ((l.take n).map (·.dst)) 0 u a) w') : (Code.region id l.toArray true).wp P Q a w := by
 have ok := GrowS.of hg
 obtain ⟨u0, hu0⟩ := puts_start ((l.take n).map (·.dst)) 0 a
 refine wp_region_any hm ?_
 have inv0 : HeadInv .any l.toArray n (Array.replicate l.toArray.size false) :=
  ⟨by simp, fun j oj _ hl => (by rw [getD_replicate_false] at hl; cases hl), fun t _ ht => getD_in (by simpa using ht) (getD_replicate_false _ _)⟩
 have hc : countU (fun j => !(Array.replicate l.toArray.size false).getD j false) n = n := by
  have h : ∀ m, countU (fun j => !(Array.replicate l.toArray.size false).getD j false) m = m := by
   intro m
   induction m with
   | zero => rfl
   | succ m ih => rw [countU, ih, getD_replicate_false]; rfl
  exact h n
 have := sr_go (P := P) (Q := Q) (a := a) ok hB hch hst hsw hs0 (by simpa using hh) (by simpa using ht) n _ u0 w.drew inv0 hc ((Fr.refl _ _).drew) (by rw [stage_none ws M0 _ (fun x _ => getD_replicate_false _ _)]; exact h0) (fun j hj hl => by rw [getD_replicate_false] at hl; cases hl) (fun x hx _ => hI u0 (by rw [← hn]; exact hu0) x hx)
 rw [show (l.toArray.toList.take n).map (·.dst) = (l.take n).map (·.dst) by simp, hu0, show n + (l.toArray.size - n) = l.toArray.size by have := ok.le; omega] at this
 exact this
end Go.Proofs.YtpnchdgplpdefaaGreatDoor
namespace Go.Proofs.YtpnchdgplpdefaaGreatDoor
open Go.RowKit Go.Shelf
def stepsC (xs : List CV) (L : List Ent) : List Ent := xs.foldl (fun l c => stepC c l) L
def fillC (xs : List CV) (n : Nat) : List CV := (xs.take (min n 24)).map CV.cut
def fillL (xs : List CV) (n : Nat) : List Ent := stepsC (fillC xs n) []
theorem fillC_small (xs : List CV) (n : Nat) : ∀ c ∈ fillC xs n, SmallC c := fun c hc => by
 obtain ⟨x, _, rfl⟩ := List.mem_map.1 hc
 exact x.cut_small
theorem stepsC_take {xs : List CV} {k : Nat} {c : CV} (h : xs[k]? = some c) (L : List Ent) : stepsC (xs.take (k + 1)) L = stepC c (stepsC (xs.take k) L) := by
 rw [stepsC, List.take_add_one, h, Option.toList_some, List.foldl_append]
 rfl
theorem stepsC_good (xs : List CV) (hX : ∀ c ∈ xs, SmallC c) : ∀ k, k ≤ xs.length → GoodK k (stepsC (xs.take k) [])
 | 0, _ => by rw [List.take_zero]; exact GoodK.nil
 | k + 1, h => by
  rw [stepsC_take (List.getElem?_eq_getElem (by omega : k < xs.length))]
  exact (stepsC_good xs hX k (by omega)).step (hX _ (List.getElem_mem _))
theorem fillL_good (xs : List CV) (n : Nat) (hn : xs.length = n) : GoodK 24 (fillL xs n) := by
 have hl : (fillC xs n).length = min n 24 := by rw [fillC, List.length_map, List.length_take]; omega
 have h := stepsC_good (fillC xs n) (fillC_small xs n) _ (Nat.le_refl _)
 rw [List.take_length] at h
 exact h.more (by omega)
def OneV (c : CV) (L : List Ent) (v : Value) (w : World) : Prop := ∃ s' rv', v = .tuple #[.pointer (some ⟨s', 0, none⟩), rv', .bool true] ∧ StL w s' (stepC c L) ∧ RowE w rv' (stepC c L)
theorem OneV.fr0 {c : CV} {L : List Ent} {v : Value} {w w' : World} (h : OneV c L v w) (hf : Fr Nothing w w') : OneV c L v w' := by
 obtain ⟨s, r, e, h1, h2⟩ := h
 exact ⟨s, r, e, h1.fr0 hf, h2.fr0 hf⟩
def SV (c : CV) (L : List Ent) (v : Value) (w : World) : Prop := ∃ s', v = .pointer (some ⟨s', 0, none⟩) ∧ StL w s' (stepC c L)
theorem SV.fr0 {c : CV} {L : List Ent} {v : Value} {w w' : World} (h : SV c L v w) (hf : Fr Nothing w w') : SV c L v w' := by
 obtain ⟨s, e, h1⟩ := h
 exact ⟨s, e, h1.fr0 hf⟩
def FInv (w : World) (ys : List CV) (N : Nat) (s l i : Value) (wr : World) : Prop := ∃ k s', k ≤ N ∧ s = .pointer (some ⟨s', 0, none⟩) ∧ i = .int .i64 ((k : Nat) : Int) ∧ StL wr s' (stepsC (ys.take k) []) ∧ RowE wr l (stepsC (ys.take k) []) ∧ Fr Nothing w wr
def Filled (w : World) (L : List Ent) (e : Ending) (w' : World) : Prop := ∃ s' rv', e = .returned (.tuple #[.pointer (some ⟨s', 0, none⟩), rv']) ∧ Fr Nothing w w' ∧ StL w' s' L ∧ RowE w' rv' L
set_option maxRecDepth 100000 in
set_option maxHeartbeats 600000 in
theorem fill_any (n : Nat) (xs : List CV) (A : Option Addr) (c0 : Nat) (S : Nat → Prop) (w : World) (hD : CL w S A n xs) (hn : n ≤ 9223372036854775807) (hU : UsaT w) :
  Calls Tryz.prog 5 #[.slice A n c0] w (Filled w (fillL xs n)) := by
 have HU := Lib.hid hU
 have HX := Lib.hid (fillC_small xs n)
 have HGK := Lib.hid (stepsC_good (fillC xs n) (fillC_small xs n))
 have HYL : Hid ((fillC xs n).length = min n 24) := by simp only [Hid]; rw [fillC, List.length_map, List.length_take, hD.len]; omega
 have TA : Hid (∀ w', Fr Nothing w w' → Calls Tryz.prog 18 #[.slice A n c0] w' (fun e w'' => ∃ v4 v5, e = .returned (.tuple #[v4, v5]) ∧ Grew 55 7 w' (.slice none 0 0) w'' v4 (min n 24) ((fillC xs n).flatMap CV.cells) ∧ Grew 59 7 w' (.slice none 0 0) w'' v5 (min n 24) ((fillC xs n).flatMap CV.cells))) := fun w' hf => To_any n xs A c0 S w' (hD.fr0 hf) hn
 have HFL : Hid (fillL xs n = stepsC (fillC xs n) []) := rfl
 generalize fillL xs n = FL at *
 generalize fillC xs n = ys at *
 have HN24 : Hid (min n 24 ≤ 24) := by simp only [Hid]; omega
 generalize min n 24 = N at *
 clear hD hn hU
 go_enter Tryz.func5, Tryz.ntmps5
 go_wp2_with fail
 refine (New_any _).mono ?_
 rintro e w1 ⟨s0, rfl, hs0, f1⟩
 have F1 := Lib.hid f1
 have S0 : Hid (StL w1 s0 []) := ⟨_, hs0, rfl⟩
 clear f1 hs0
 go_wp2_with fail
 refine (TA.out _ F1.out).mono ?_
 rintro e w2 ⟨v4, v5, rfl, h4, h5⟩
 have F2 : Hid (Fr Nothing w w2) := F1.out.trans h4.fr0
 have S2 : Hid (StL w2 s0 []) := S0.out.fr0 h4.fr0
 obtain ⟨A4, n4, c4, rfl, H4, _⟩ := own_slice h4.own
 obtain ⟨A5, n5, c5, rfl, H5, _⟩ := own_slice h5.own
 obtain rfl : n4 = N := H4.out
 obtain rfl : n5 = n4 := H5.out
 have D4 : Hid (CL w2 (fun _ => True) A4 n5 ys) := ⟨(Rd.of_own h4.own).any, HYL.out⟩
 have D5 : Hid (CL w2 (fun _ => True) A5 n5 ys) := ⟨(Rd.of_own h5.own).any, HYL.out⟩
 have HS : Hid (FInv w2 ys n5 (.pointer (some ⟨s0, 0, none⟩)) (.slice none 0 0) (.int .i64 0) w2) := ⟨0, s0, by omega, rfl, rfl, S2.out, RowE.nil _, Fr.refl _ _⟩
 clear h4 h5 H4 H5 F1 S0 TA
 go_wp2
 go_loopw [4, 5, 8] (fun s l i wr => FInv w2 ys n5 s l i wr) (fun _ _ i _ => n5 - (intOf i).toNat)
 case atStart => exact HS.out
 case round =>
  obtain ⟨k, s1, hk, rfl, rfl, hS, hR, hF⟩ := hrel
  have FR := Lib.hid hF
  have SS := Lib.hid hS
  have RR := Lib.hid hR
  obtain ⟨A1, n1, c1, rfl, H1, _⟩ := own_slice hR
  clear hS hR hF HS
  by_cases hlt : k < n5
  ·have hn24 : n5 ≤ 24 := HN24.out
   have hI : (k : Int) < (n5 : Int) := by omega
   have hI0 : (0 : Int) ≤ (k : Int) := by omega
   have t0 : decide ((k : Int) < (n5 : Int)) = true := decide_eq_true hI
   obtain ⟨ad, c, rfl, hc, hcell⟩ := (D4.out.fr0 FR.out).at_ hlt
   obtain ⟨ad', c', rfl, hc', hcell'⟩ := (D5.out.fr0 FR.out).at_ hlt
   rw [hc] at hc'
   cases hc'
   have HCE := Lib.hid hcell
   have HCE' := Lib.hid hcell'
   have HT := Lib.hid (stepsC_take hc [])
   have SC : Hid (SmallC c) := HX.out c (List.mem_of_getElem? hc)
   have GG : Hid (GoodK k (stepsC (ys.take k) [])) := HGK.out k (by have := HYL.out; omega)
   generalize stepsC (ys.take k) [] = Lk at *
   have CO : Hid (∀ w', Fr Nothing wr w' → Calls Tryz.prog 19 #[.pointer (some ⟨s1, 0, none⟩), .slice A1 n1 c1, .agg c.cells.toArray, .agg c.cells.toArray] w' (Oned w' c Lk)) := fun w' f => one_any Lk c s1 k _ w' (SS.out.fr0 f) (RR.out.fr0 f) (HU.out.fr0 ((F2.out.trans FR.out).trans f)) GG.out SC.out (by have := HN24.out; omega)
   clear hcell hcell' hc
   go_upto_region 7 with fail
   refine wp_region_sr [(15, .pointer (some ⟨s1, 0, none⟩)), (16, .slice A1 n1 c1)] ?hI 17 Nothing [Is (.pointer (some ⟨s1, 0, none⟩)), Is (.slice A1 n1 c1), Is (.slice (some ad) n5 c4), Is (.int .i64 (k : Int)), Is (.pointer (some (ad.add (k * 7)))), Is (.agg c.cells.toArray), Is (.slice (some ad') n5 c5), Is (.int .i64 (k : Int)), Is (.pointer (some (ad'.add (k * 7)))), Is (.agg c.cells.toArray), (fun zv zW => OneV c Lk zv zW), (fun zv zW => OneV c Lk zv zW), (fun zv zW => SV c Lk zv zW), (fun zv zW => RowE zW zv (stepC c Lk)), (fun _ _ => True), (fun zv zW => SV c Lk zv zW), (fun zv zW => RowE zW zv (stepC c Lk))] [] (fun _ => True) (fun p i => (p == 0 && i == 15) || (p == 1 && i == 16)) (by rfl) (by kernel_rfl) (by kernel_rfl) (by kernel_rfl) (by kernel_rfl) ⟨Is.stable _, Is.stable _, Is.stable _, Is.stable _, Is.stable _, Is.stable _, Is.stable _, Is.stable _, Is.stable _, Is.stable _, fun _ _ _ _ f h => h.fr0 f, fun _ _ _ _ f h => h.fr0 f, fun _ _ _ _ f h => h.fr0 f, fun _ _ _ _ f h => h.fr0 f, fun _ _ _ _ _ h => h, fun _ _ _ _ f h => h.fr0 f, fun _ _ _ _ f h => h.fr0 f, trivial⟩ trivial (fun _ _ _ _ h => h) trivial ?_ ?_
   ·intro u h x hx
    simp only [List.map_cons, List.map_nil, puts, Act.put, List.setIfInBounds_toArray, List.set_cons_zero, List.set_cons_succ, Nat.reduceAdd, Nat.zero_add, Act.mk.injEq, Array.mk.injEq, List.cons.injEq, true_and, and_true] at h
    have h2 := h.1
    have h3 := h.2.1
    simp only [List.mem_cons, List.not_mem_nil, or_false] at hx
    rcases hx with rfl | rfl
    ·exact h2
    ·exact h3
   ·refine ⟨fun u w' d hf hR k1 k0 kM kI => ?_, fun u w' d hf hR k1 k0 kM kI => ?_, fun u w' d hf hR k1 k0 kM kI => ?_, fun u w' d hf hR k1 k0 kM kI => ?_, fun u w' d hf hR k1 k0 kM kI => ?_, fun u w' d hf hR k1 k0 kM kI => ?_, fun u w' d hf hR k1 k0 kM kI => ?_, fun u w' d hf hR k1 k0 kM kI => ?_, fun u w' d hf hR k1 k0 kM kI => ?_, fun u w' d hf hR k1 k0 kM kI => ?_, fun u w' d hf hR k1 k0 kM kI => ?_, fun u w' d hf hR k1 k0 kM kI => ?_, fun u w' d hf hR k1 k0 kM kI => ?_, fun u w' d hf hR k1 k0 kM kI => ?_, fun u w' d hf hR k1 k0 kM kI => ?_, fun u w' d hf hR k1 k0 kM kI => ?_, fun u w' d hf hR k1 k0 kM kI => ?_, trivial⟩
    all_goals simp only [List.take_succ_cons, List.take_zero, List.map_cons, List.map_nil, puts, Act.put, List.setIfInBounds_toArray, List.set_cons_zero, List.set_cons_succ, Nat.reduceAdd, Nat.zero_add]
    ·clear hR k1 kM
     refine .inl ⟨by kernel_rfl, ?_⟩
     have e15 : u 15 = .pointer (some ⟨s1, 0, none⟩) := kI (15, .pointer (some ⟨s1, 0, none⟩)) (by simp) (k0 15 (by kernel_rfl))
     clear kI k0
     go_simp
     exact ⟨_, rfl, Fr.refl _ _, rfl, trivial⟩
    ·clear hR k1 kM
     refine .inl ⟨by kernel_rfl, ?_⟩
     have e16 : u 16 = .slice A1 n1 c1 := kI (16, .slice A1 n1 c1) (by simp) (k0 16 (by kernel_rfl))
     clear kI k0
     go_simp
     exact ⟨_, rfl, Fr.refl _ _, rfl, trivial⟩
    ·clear hR k1 k0 kM
     refine .inl ⟨by kernel_rfl, ?_⟩
     go_simp
     exact ⟨_, rfl, Fr.refl _ _, rfl, trivial⟩
    ·clear hR k1 k0 kM
     refine .inl ⟨by kernel_rfl, ?_⟩
     go_simp
     exact ⟨_, rfl, Fr.refl _ _, rfl, trivial⟩
    ·have h2 : u 2 = _ := hR 2 (by kernel_rfl)
     have h3 : u 3 = _ := hR 3 (by kernel_rfl)
     clear hR k1 k0 kM
     simp only [h2, h3]
     refine .inl ⟨by kernel_rfl, ?_⟩
     go_simp
     exact ⟨_, rfl, Fr.refl _ _, rfl, trivial⟩
    ·have h4 : u 4 = _ := hR 4 (by kernel_rfl)
     clear hR k1 k0 kM
     simp only [h4]
     refine .inl ⟨by kernel_rfl, ?_⟩
     exact wp_load_add _ _ rfl (ad.add (k * 7)) rfl c.cells _ (fun j v hv => hf.cellSome (HCE.out j v hv) (fun x => x)) Tryz.underlying55 rfl infoCh ⟨_, rfl, Fr.refl _ _, rfl, trivial⟩
    ·clear hR k1 k0 kM
     refine .inl ⟨by kernel_rfl, ?_⟩
     go_simp
     exact ⟨_, rfl, Fr.refl _ _, rfl, trivial⟩
    ·clear hR k1 k0 kM
     refine .inl ⟨by kernel_rfl, ?_⟩
     go_simp
     exact ⟨_, rfl, Fr.refl _ _, rfl, trivial⟩
    ·have h6 : u 6 = _ := hR 6 (by kernel_rfl)
     have h7 : u 7 = _ := hR 7 (by kernel_rfl)
     clear hR k1 k0 kM
     simp only [h6, h7]
     refine .inl ⟨by kernel_rfl, ?_⟩
     go_simp
     exact ⟨_, rfl, Fr.refl _ _, rfl, trivial⟩
    ·have h8 : u 8 = _ := hR 8 (by kernel_rfl)
     clear hR k1 k0 kM
     simp only [h8]
     refine .inl ⟨by kernel_rfl, ?_⟩
     exact wp_load_add _ _ rfl (ad'.add (k * 7)) rfl c.cells _ (fun j v hv => hf.cellSome (HCE'.out j v hv) (fun x => x)) Tryz.underlying59 rfl infoC ⟨_, rfl, Fr.refl _ _, rfl, trivial⟩
    ·have h0 : u 0 = _ := hR 0 (by kernel_rfl)
     have h1 : u 1 = _ := hR 1 (by kernel_rfl)
     have h5 : u 5 = _ := hR 5 (by kernel_rfl)
     have h9 : u 9 = _ := hR 9 (by kernel_rfl)
     clear hR k1 k0 kM
     simp only [h0, h1, h5, h9]
     refine .inl ⟨by kernel_rfl, ?_⟩
     go_simp
     refine (CO.out _ hf).mono ?_
     rintro e w4 ⟨s', rv', rfl, f4, h1, h2⟩
     exact ⟨_, rfl, f4.weak, ⟨s', rv', rfl, h1, h2⟩, trivial⟩
    ·obtain ⟨s2, rv2, e10, hS2, hR2⟩ := hR 10 (by kernel_rfl)
     clear hR k1 k0 kM
     simp only [e10]
     refine .inl ⟨by kernel_rfl, ?_⟩
     go_simp
     exact ⟨_, rfl, Fr.refl _ _, ⟨s2, rv2, rfl, hS2, hR2⟩, trivial⟩
    ·obtain ⟨s2, rv2, e11, hS2, hR2⟩ := hR 11 (by kernel_rfl)
     clear hR k1 k0 kM
     simp only [e11]
     refine .inl ⟨by kernel_rfl, ?_⟩
     go_simp
     exact ⟨_, rfl, Fr.refl _ _, ⟨s2, rfl, hS2⟩, trivial⟩
    ·obtain ⟨s2, rv2, e11, hS2, hR2⟩ := hR 11 (by kernel_rfl)
     clear hR k1 k0 kM
     simp only [e11]
     refine .inl ⟨by kernel_rfl, ?_⟩
     go_simp
     exact ⟨_, rfl, Fr.refl _ _, hR2, trivial⟩
    ·obtain ⟨s2, rv2, e11, hS2, hR2⟩ := hR 11 (by kernel_rfl)
     clear hR k1 k0 kM
     simp only [e11]
     refine .inl ⟨by kernel_rfl, ?_⟩
     go_simp
     exact ⟨_, rfl, Fr.refl _ _, trivial, trivial⟩
    ·obtain ⟨s2, e12, hS2⟩ := hR 12 (by kernel_rfl)
     clear hR k1 k0 kM
     simp only [e12]
     refine .inl ⟨by kernel_rfl, ?_⟩
     go_simp
     exact ⟨_, rfl, Fr.refl _ _, ⟨s2, rfl, hS2⟩, trivial⟩
    ·have hR2 := hR 13 (by kernel_rfl)
     obtain ⟨v13, e13⟩ : ∃ v, u 13 = v := ⟨_, rfl⟩
     rw [e13] at hR2
     clear hR k1 k0 kM
     simp only [e13]
     refine .inl ⟨by kernel_rfl, ?_⟩
     go_simp
     exact ⟨_, rfl, Fr.refl _ _, hR2, trivial⟩
   ·intro u w' hf hR kM
    have q15 : SV c Lk (u 15) w' := hR 15 (by omega)
    have hR2 : RowE w' (u 16) (stepC c Lk) := hR 16 (by omega)
    clear hR kM
    obtain ⟨s2, e10, hS2⟩ := q15
    simp only [List.take_succ_cons, List.take_zero, List.map_cons, List.map_nil, puts, Act.put, List.setIfInBounds_toArray, List.set_cons_zero, List.set_cons_succ, List.drop_succ_cons, List.drop_zero, Nat.reduceAdd, Nat.zero_add, e10]
    generalize u 16 = rv2 at *
    have HF := Lib.hid (FR.out.trans hf)
    have HS2 := Lib.hid hS2
    have HR2 := Lib.hid hR2
    clear hf e10 hS2 hR2
    go_wp2
    go_roundw
    case rel =>
     have := HN24.out
     refine ⟨k + 1, s2, by omega, rfl, by go_num, ?_, ?_, HF.out⟩
     ·rw [HT.out]; exact HS2.out
     ·rw [HT.out]; exact HR2.out
    case measure => have := HN24.out; simp [intOf]; omega
  ·obtain rfl : k = n5 := by omega
   have t0 : decide ((k : Int) < (k : Int)) = false := decide_eq_false (by omega)
   go_wp2
   go_ret2
   have hx : ys.take k = ys := List.take_of_length_le (by have := HYL.out; omega)
   rw [hx] at SS RR
   rw [HFL.out]
   exact ⟨_, _, rfl, F2.out.trans FR.out, SS.out, RR.out⟩
end Go.Proofs.YtpnchdgplpdefaaGreatDoor
namespace Go.Proofs.YtpnchdgplpdefaaGreatDoor
open Go.RowKit Go.Shelf
theorem builtNref (n : NameV) : Tryz.prog.built 57 [(0, .int .i64 n.kind), (1, .string n.owner), (2, .int .i64 n.number), (3, .int .i64 n.index), (4, .string n.text)] = some n.cells.toArray := by kernel_rfl
theorem zvNref (w : World) : (zeroValue 57).run Tryz.prog w = .ok nameZ w := by kernel_rfl
set_option maxRecDepth 100000 in
set_option maxHeartbeats 4000000 in
theorem Of4_any (n : NameV) (w : World) : Calls Tryz.prog 43 #[.agg n.cells.toArray] w (Same' w (.agg n.cells.toArray)) := by
 have B := Lib.hid (builtNref n)
 have O := Lib.hid n.one
 have I : Hid ((Tryz.prog.info? 57).map (·.size) = some n.cells.toArray.size) := infoN
 have Z : Hid ((#[.int .i64 0, .string ByteArray.empty, .int .i64 0, .int .i64 0, .string ByteArray.empty] : Array Value).size = n.cells.toArray.size) := rfl
 go_enter Tryz.func43, Tryz.ntmps43
 go_wp2_with (refine wpList_boxBlk rfl 44 (.tmp 0) rfl n.cells.toArray rfl ?_)
 intro w1 n1
 have F1 := Lib.hid n1.fr
 have NB := Lib.hid n1.blk
 clear n1
 generalize w.heap.size = gb at *
 go_wp2_with (refine wpList_allocBlk rfl 57 rfl nameZ zvNref #[.int .i64 0, .string ByteArray.empty, .int .i64 0, .int .i64 0, .string ByteArray.empty] rfl ?_)
 intro w2 n2
 have N2 := Lib.hid n2
 clear n2
 have F2 := Lib.hid (F1.out.trans N2.out.fr)
 have NB2 := Lib.hid (NB.out.fr N2.out.fr (fun x => x))
 generalize hgr : w1.heap.size = gr at *
 have HGR := Lib.hid hgr
 clear hgr
 have R2 : Hid (Blk w2 gr 57 #[.int .i64 0, .string ByteArray.empty, .int .i64 0, .int .i64 0, .string ByteArray.empty]) := by have h := N2.out.blk; rw [HGR.out] at h; exact h
 have c0 : w2.cell? ⟨gb, 0, none⟩ = some (.int .i64 n.kind) := NB2.out.cell 0
 have c1 : w2.cell? ⟨gb, 1, none⟩ = some (.string n.owner) := NB2.out.cell 1
 have c2 : w2.cell? ⟨gb, 2, none⟩ = some (.int .i64 n.number) := NB2.out.cell 2
 have c3 : w2.cell? ⟨gb, 3, none⟩ = some (.int .i64 n.index) := NB2.out.cell 3
 have c4 : w2.cell? ⟨gb, 4, none⟩ = some (.string n.text) := NB2.out.cell 4
 clear NB
 go_wp2_with (refine wpList_built rfl 57 _ rfl n.cells.toArray _ (by simp only [List.map_toArray, List.map_cons, List.map_nil]; rfl) B.out (Held.go ?hold))
 unfold Held
 refine wpList_storeBlk rfl 57 (.tmp 2) _ rfl gr n.cells.toArray rfl rfl _ _ R2.out I.out Z.out O.out ?_
 intro wz b5 f5
 have J4 := Lib.hid b5
 have JF : Hid (Fr Nothing w wz) := F2.out.then_ f5 (fun i hi e => by have e' : i = gr := e; have q1 := HGR.out; have q2 := F1.out.size; omega)
 clear b5 f5 N2 NB2 R2 HGR c0 c1 c2 c3 c4
 go_wp2
 exact bodyPost_ret (results_cell_row (fn := Tryz.f43) (p := 2) (ty := 57) Tryz.results43 _ wz _ 57 n.cells.toArray (0, 0) _ rfl J4.out Tryz.underlying57 rfl I.out) rfl ⟨rfl, JF.out⟩
set_option maxRecDepth 100000 in
theorem neqN_same (a : NameV) (w : World) : (binOp .neq 57 (.agg a.cells.toArray) (.agg a.cells.toArray)).run Tryz.prog w = .ok (.bool false) w := by
 obtain ⟨k, o, n, i, t⟩ := a
 simp only [NameV.cells]
 go_simp
theorem flat5 : ∀ (xs : List Ent) (k : Nat) (c : Ent), xs[k]? = some c → ∀ j x, c.1.cells[j]? = some x → (xs.flatMap (fun x => x.1.cells))[k * 5 + j]? = some x
 | [], _, _, h, _, _, _ => by simp at h
 | y :: ys, 0, c, h, j, x, hx => by
  simp only [List.getElem?_cons_zero, Option.some.injEq] at h
  subst h
  have hj : j < 5 := (List.getElem?_eq_some_iff.1 hx).1
  rw [List.flatMap_cons, Nat.zero_mul, Nat.zero_add, List.getElem?_append_left hj]
  exact hx
 | y :: ys, k + 1, c, h, j, x, hx => by
  rw [List.flatMap_cons, List.getElem?_append_right (by rw [NameV.cells_length]; omega), show (k + 1) * 5 + j - y.1.cells.length = k * 5 + j by rw [NameV.cells_length]; omega]
  exact flat5 ys k c (by simpa using h) j x hx
end Go.Proofs.YtpnchdgplpdefaaGreatDoor
