/- Steps of the proof of LawPipesLoseNothing: contracts of the functions that the law reaches, for every world that holds what each of them asks. -/
import Derived.Test.YtmpokappjogehaaGreatDoorQAP
import Derived.Test.YtmpokappjogehaaGreatDoorQAQ
import Derived.Test.YtmpokappjogehaaGreatDoorQAY
import Derived.Test.YtmpokappjogehaaGreatDoorQAZ
set_option linter.unusedVariables false
set_option linter.unusedSimpArgs false
namespace Go.Proofs.YtmpokappjogehaaGreatDoor
open Go.RowKit

section
variable {P : Program} {ops : Array Oper} {md : Region.Mode} {w : World}
/-- One mark, in a round. -/
theorem wpAny_mid {Q : Exit → Act → World → Prop} {a : Act} {w : World} {l : List Oper} (n : Nat) (hB : midB .any l.toArray n = true)
    (h : wpStill P l.toArray { w with drawn := w.drawn + 1 } (fun a' => wpList P l.toArray (Exit.then (fun a2 w2 => wpStill P l.toArray w2 (fun a3 => Q .normal a3 w2) (l.drop (n + 1)) a2) Q) ((l.drop n).take 1) a' { w with drawn := w.drawn + 1 }) (l.take n) a) : wpAny P .any l.toArray Q l.toArray.size (Array.replicate l.toArray.size false) a { w with drawn := w.drawn + 1 } := by
  simp only [midB, Bool.and_eq_true, decide_eq_true_eq] at hB
  obtain ⟨⟨⟨⟨hsel, hn⟩, hs⟩, hc⟩, hlex⟩ := hB
  have hn' : n < l.length := by simpa using hn
  have htl : (l.take n).length = n := by simp; omega
  have inv0 : HeadInv .any l.toArray n (Array.replicate l.toArray.size false) :=
    ⟨by simp, fun j oj _ hl => (by rw [getD_replicate_false] at hl; cases hl), fun t _ ht => getD_in (by simpa using ht) (getD_replicate_false _ _)⟩
  have H := mid_lex (md := .any) (g := l.toArray.size - (n + 1)) hsel hs hc (l.take n) 0 _ a (fun j hj => by
    have hj' : j < n := by rw [htl] at hj; exact hj
    simp [hj']) (by simpa using htl) inv0 (by rw [htl]; exact hlex) h
  have h0 : l.toArray[n]? = some l[n] := by simp [hn']
  have h1 : (l.drop n).take 1 = [l[n]] := by rw [List.drop_eq_getElem_cons hn']; rfl
  have := wpAny_of_head (Q' := Q) (g := l.toArray.size - (n + 1) + 1) (fun listed a' hL => by
    obtain ⟨hr, hl, hq⟩ := hL
    rw [h1] at hq
    refine ⟨fun h2 => (by rw [hr] at h2; cases h2), fun i hi => ?_⟩
    rw [hr] at hi
    obtain rfl : i = n := by simpa using hi
    have hw : wpOp P l.toArray (Exit.then (fun a2 w2 => wpStill P l.toArray w2 (fun a3 => Q .normal a3 w2) (l.drop (i + 1)) a2) Q) i (wpList P l.toArray (Exit.then (fun a2 w2 => wpStill P l.toArray w2 (fun a3 => Q .normal a3 w2) (l.drop (i + 1)) a2) Q) []) a' { w with drawn := w.drawn + 1 } := by
      unfold wpOp; simp only [h0]; exact hq
    refine wpOp_mono (fun a2 w2 h2 => ?_) (wpOp_then hw)
    have hd : (l.drop (i + 1)).length = l.toArray.size - (i + 1) := by simp
    have h3 : wpStill P l.toArray w2 (fun a3 => Q .normal a3 w2) (l.drop (i + 1)) a2 := h2
    have h4 := wpAnyS_lex (md := .any) hsel (l.drop (i + 1)) (i + 1) (listed.setIfInBounds i true) a2 (fun j => by simp [List.getElem?_drop]) (by rw [hd]; exact hl) h3
    rw [hd] at h4
    exact wpAny_of_still (fun a3 h5 => h5) _ _ _ h4) _ _ _ H
  rw [htl, show n + (l.toArray.size - (n + 1) + 1) = l.toArray.size by omega] at this
  exact this
theorem wpIn_round_mid {r m : Nat} {id : Nat} {Q : Exit → Act → World → Prop} {a : Act} {w : World} {l : List Oper} (n : Nat) (hm : P.follows .mixedOrders = true) (hd : (l.all noDefer) = true) (hB : midB .any l.toArray n = true)
    (h : ∀ wd, Fr Nothing w wd → wpStill P l.toArray wd (fun a' => wpList P l.toArray (Exit.then (fun a2 w2 => wpStill P l.toArray w2 (fun a3 => Q .normal a3 w2) (l.drop (n + 1)) a2) (fun e a w => Q e a w ∧ e = .normal)) ((l.drop n).take 1) a' wd) (l.take n) a) : (Code.region id l.toArray true).wpIn (Fence.wide.inRound r) m P Q a w := by
  refine wpIn_region_any hm (wpAnyIn_round (fun i o ho => List.all_eq_true.1 hd o (List.mem_of_getElem? (by simpa using ho))) _ _ _ _ (wpAny_mid n hB ?_))
  have := h _ (Fr.refl _ _).drew
  simpa using this
end
theorem wpAny_kl {P : Program} {Q : Exit → Act → World → Prop} {a : Act} {w : World} {l : List Oper} (n : Nat) (T : Nat → Prop) (wr : Nat → Bool) (kill : Nat → Nat → Bool) (V : List Fact)
    (hh : headKl P l.toArray Q n T wr kill w (fun u => puts ((l.take n).map (·.dst)) 0 u a) V 0 (l.take n))
    (ht : ∀ u w', Fr T w w' → (∀ j, j < n → (_ : ((List.range n).all fun k => !kill k j) = true := by kernel_rfl) → (V.getD j anyF).p (u j) w') → wpList P l.toArray Q (l.drop n) (puts ((l.take n).map (·.dst)) 0 u a) w')
    (hg : growT l.toArray n = true := by kernel_rfl) : wpAny P .any l.toArray Q l.toArray.size (Array.replicate l.toArray.size false) a { w with drawn := w.drawn + 1 } := by
  have ok := GrowT.of hg
  obtain ⟨u0, hu0⟩ := puts_start ((l.take n).map (·.dst)) 0 a
  have inv0 : HeadInv .any l.toArray n (Array.replicate l.toArray.size false) :=
    ⟨by simp, fun j oj _ hl => (by rw [getD_replicate_false] at hl; cases hl), fun t _ ht => getD_in (by simpa using ht) (getD_replicate_false _ _)⟩
  have hc : countU (fun j => !(Array.replicate l.toArray.size false).getD j false) n = n := by
    have h : ∀ m, countU (fun j => !(Array.replicate l.toArray.size false).getD j false) m = m := by
      intro m
      induction m with
      | zero => rfl
      | succ m ih => rw [countU, ih, getD_replicate_false]; rfl
    exact h n
  have := inv_go (P := P) (Q := Q) (a := a) ok (InvK w n T wr kill V) ?_ ?_ n _ u0 w.drew inv0 hc ⟨(Fr.refl _ _).drew, fun _ => (Fr.refl _ _).drew, fun j _ h => (by rw [getD_replicate_false] at h; cases h)⟩
  · rw [show (l.toArray.toList.take n).map (·.dst) = (l.take n).map (·.dst) by simp, hu0, show n + (l.toArray.size - n) = l.toArray.size by have := ok.le; omega] at this
    exact this
  · intro i o hin ho d u w' hdi hclosed hwait hI
    have hol : (l.take n)[i]? = some o := by rw [List.getElem?_take, if_pos hin]; simpa using ho
    have hob := hh.at_ i o hol u w' hI.fr (fun j hj ha => by
      rw [Nat.zero_add] at hj ha
      refine hI.facts j (hwait j hj).2 (hwait j hj).1 (fun k hk hd => ?_)
      have h := List.all_eq_true.1 ha k (List.mem_range.2 hk)
      simp only [Bool.or_eq_true, Bool.not_eq_true', beq_iff_eq] at h
      rcases h with (h | h) | h
      · exact h
      · subst h
        rw [hdi] at hd
        cases hd
      · have := hclosed k i hd h
        rw [hdi] at this
        cases this) (fun hqb => by
      rw [Nat.zero_add] at hqb
      refine hI.quiet (fun k hk hd => ?_)
      have h := List.all_eq_true.1 hqb k (List.mem_range.2 hk)
      simp only [Bool.or_eq_true, Bool.not_eq_true', beq_iff_eq] at h
      rcases h with (h | h) | h
      · exact h
      · subst h
        rw [hdi] at hd
        cases hd
      · have := hclosed k i hd h
        rw [hdi] at this
        cases this)
    rw [Nat.zero_add] at hob
    have hdst : (l.toArray.toList.take n).map (·.dst) = (l.take n).map (·.dst) := by simp
    rw [hdst]
    refine wpW_mono ?_ hob
    rintro a' w'' ⟨v, rfl, hstep, hv⟩
    refine ⟨v, rfl, ?_⟩
    have upd : ∀ j, j ≠ i → updV u i v j = u j := fun j hj => by simp [updV, hj]
    have updi : updV u i v i = v := by simp [updV]
    have setne : ∀ j, j ≠ i → setB d i j = d j := fun j hj => by simp [setB, hj]
    have seti : setB d i i = true := by simp [setB]
    have old : ∀ j, j < n → j ≠ i → setB d i j = true → (∀ k, k < n → setB d i k = true → kill k j = false) → (V.getD j anyF).p (u j) w' := fun j hj hne hd hk =>
      hI.facts j hj (by rw [← setne j hne]; exact hd) (fun k hkn hkd => hk k hkn (by
        by_cases e : k = i
        · rw [e]; exact seti
        · rw [setne k e]; exact hkd))
    cases hwr : wr i
    · rw [hwr] at hstep
      refine ⟨hI.fr.trans (Fr.weak hstep), fun hno => (hI.quiet (fun k hk hd => hno k hk (by by_cases e : k = i <;> simp [setB, e, hd]))).trans hstep, fun j hj hd hk => ?_⟩
      by_cases e : j = i
      · subst e; rw [updi]; exact hv
      · rw [upd j e]
        exact (V.getD j anyF).st _ _ _ hstep (old j hj e hd hk)
    · rw [hwr] at hstep
      obtain ⟨hf, hs⟩ := hstep
      refine ⟨hf, fun hno => (by have := hno i hin seti; rw [hwr] at this; cases this), fun j hj hd hk => ?_⟩
      by_cases e : j = i
      · subst e; rw [updi]; exact hv
      · rw [upd j e]
        have := hs.at_ j (by
          simp only [Nat.zero_add]
          rw [hk i hin seti, Bool.false_or, Bool.or_eq_false_iff]
          refine ⟨beq_eq_false_iff_ne.2 e, ?_⟩
          cases hwf : Region.waitsFor .any l.toArray j i
          · rfl
          · have := hclosed j i (by rw [← setne j e]; exact hd) hwf
            rw [hdi] at this
            cases this)
        rw [Nat.zero_add] at this
        exact this (old j hj e hd hk)
  · intro d u w' hd hI
    have := ht u w' hI.fr (fun j hj hk => hI.facts j hj (hd j hj) (fun k hkn _ => by
      have h := List.all_eq_true.1 hk k (List.mem_range.2 hkn)
      simpa using h))
    simpa using this

theorem wpIn_round_kl {r m : Nat} {P : Program} {id : Nat} {Q : Exit → Act → World → Prop} {a : Act} {w : World} {l : List Oper} (n : Nat) (T : Nat → Prop) (wr : Nat → Bool) (kill : Nat → Nat → Bool) (V : List Fact) (hd : (l.all noDefer) = true)
    (hh : headKl P l.toArray (fun e a w => Q e a w ∧ e = .normal) n T wr kill w (fun u => puts ((l.take n).map (·.dst)) 0 u a) V 0 (l.take n))
    (ht : ∀ u w', Fr T w w' → (∀ j, j < n → (_ : ((List.range n).all fun k => !kill k j) = true := by kernel_rfl) → (V.getD j anyF).p (u j) w') → wpList P l.toArray (fun e a w => Q e a w ∧ e = .normal) (l.drop n) (puts ((l.take n).map (·.dst)) 0 u a) w')
    (hm : P.follows .mixedOrders = true := by kernel_rfl) (hg : growT l.toArray n = true := by kernel_rfl) : (Code.region id l.toArray true).wpIn (Fence.wide.inRound r) m P Q a w :=
  wpIn_region_any hm (wpAnyIn_round (fun i o ho => List.all_eq_true.1 hd o (List.mem_of_getElem? (by simpa using ho))) _ _ _ _ (wpAny_kl n T wr kill V hh ht hg))
end Go.Proofs.YtmpokappjogehaaGreatDoor

namespace Go.Proofs.YtmpokappjogehaaGreatDoor
namespace Ev
open Go Go.RowKit

def nmB (o : Str) (k : Int) : EName := ⟨.ofNat 8, o, k, .ofNat 0, ⟨0, 0⟩⟩
def emptyE (n : EName) (bs : VBs) (l : List ECall) : Bool := match findE n bs l with
  | none => true
  | some ⟨_, .str e, _⟩ => Nat.beq e.len 0
  | _ => false
def nodeZ : List EV → Option Int
  | [.int .i64 _, .int .i64 _, .int .i64 _, .int .i64 _, .int .i64 z, .int .i64 _, .str _] => some z
  | _ => none
/-- inode.Write of a short string at the start of a file whose first block is absent or empty. -/
def kWrite2 (call : Caller XO) (f : Nat) (args : List EV) (m : Mem XO) : Option (EV × Mem XO) :=
  bif Nat.beq f 72 then match args with
    | [.ptr id 0, .agg [.str o, .int .i64 k], .int .i64 (.ofNat 0), .str s] => bif Nat.blt 0 s.len && Nat.blt s.len 64 && okIn (nmB o k) then
      match call 155 [.ptr id 0, .agg [.str o, .int .i64 k]] m with
      | some (.tup [.agg n, .int .i64 (.ofNat 0)], m1) => match nodeZ n, m1.h.get id with
        | some z, some (.ext (.view bs l)) => bif ltF z (.ofNat s.len) && emptyE (nmB o k) bs l && Nat.ble l.length 1000 then
          match call 160 [.ptr id 0, .agg [.str o, .int .i64 k], .agg n, .int .i64 (.ofNat s.len)] (m1.upd id (.ext (.view bs (⟨nmB o k, .str (s.cat ⟨64 - s.len, 0⟩), false⟩ :: l)))) with
          | some (.int .i64 (.ofNat 0), m6) => some (.tup [.int .i64 (.ofNat s.len), okE], m6)
          | _ => none
          else none
        | _, _ => none
      | _ => none
      else none
    | _ => none
  else none
section
variable {ρ : Nat → Value} {σ σ0 : Sg} {own own0 : Ow} {w w' w0 : World} {m : Mem XO} {n0 : Nat}
/-- Blocks that nobody owns are turned. -/
theorem HRel.keepT {T : Nat → Prop} (hH : HRel (TX ρ) ρ σ own m w) (f : Fr T w w') (hT : ∀ k, k < w.heap.size → T k → own k = none ∧ k ≠ 0) : HRel (TX ρ) ρ σ own m w' :=
  ⟨hH.dom, fun b r h => ⟨Nat.lt_of_lt_of_le (hH.ow b r h).1 f.size, (hH.ow b r h).2⟩, fun b h => ⟨Nat.lt_of_lt_of_le (hH.tab b h).1 f.size, (hH.tab b h).2⟩,
    (TX ρ).gst w w' hH.g (fun k hk => f.block k (hH.tab k hk).1 (fun e => (hT k (hH.tab k hk).1 e).2 hk)),
    fun i o hg => (hH.obj i o hg).keep (fun _ _ h => h) (fun _ => Iff.rfl) (fun b hb => f.block b (hH.ow b i hb).1 (fun e => by have h3 := (hT b (hH.ow b i hb).1 e).1; rw [hb] at h3; cases h3)) f.size⟩
theorem Stp.keepT {T : Nat → Prop} {nx : Nat} (h : Stp σ0 own0 n0 w0 σ own nx w) (f : Fr T w w') (hT : ∀ k, T k → w0.heap.size ≤ k) : Stp σ0 own0 n0 w0 σ own nx w' :=
  ⟨h.ext, h.nx, h.fr.then_ f (fun i hi e => absurd (hT i e) (Nat.not_le.2 hi)), h.old⟩
open Classical in
/-- A view is turned, and blocks that nobody owns; what is new and no row of cells is nobody's. -/
theorem HRel.viewT {T : Nat → Prop} {id v c s mr ml : Nat} {bs : VBs} {l l' : List ECall} {Lb L' : List CV} {cv' : Value} {rl' ll' : NL} {B : Nat} (hH : HRel (TX ρ) ρ σ own m w) (h1 : σ id = some (v, c)) (hdom : ∀ k r, own k = some r → k < B)
    (hD : ViewD w' v (Lb ++ L'.reverse) s mr ml cv' rl' ll') (ov : own v = some id) (omr : own mr = some id) (oml : own ml = some id) (os : own s = some id) (hcv : ∀ k, cv'.ownBlock = some k → own k = some id ∨ w.heap.size ≤ k)
    (f : Fr (fun k => own k = some id ∨ T k) w w') (hT : ∀ k, k < w.heap.size → T k → own k = none ∧ k ≠ 0) (hbs : BaseOk ρ bs Lb) (hL' : allO (l'.map (ECall.cv ρ)) = some L') :
    ∃ own', HRel (TX ρ) ρ σ own' (m.upd id (.ext (.view bs l'))) w' ∧ (∀ k, k < w.heap.size → own' k = own k) ∧ (∀ k r, own' k = some r → k < B ∨ ∃ o, w'.heap[k]? = some o ∧ o.isCells = true) := by
  have hid : id < m.nx := hH.lt h1
  have hcell : ∀ k, cv'.ownBlock = some k → ∃ o, w'.heap[k]? = some o ∧ o.isCells = true := fun k hk => by
    rcases hD.calls.2 with ⟨e, _⟩ | ⟨g, cap, cur, e, _, h6, _⟩
    · rw [e] at hk; cases hk
    · rw [e] at hk
      simp only [Value.ownBlock, Option.some.injEq] at hk
      subst hk
      exact ⟨_, h6, rfl⟩
  have hcl : ∀ k, cv'.ownBlock = some k → k < w'.heap.size := fun k hk => by
    obtain ⟨o, ho, _⟩ := hcell k hk
    exact (Array.getElem?_eq_some_iff.1 ho).1
  refine ⟨fun k => if k < w.heap.size then own k else if cv'.ownBlock = some k then some id else none, ⟨hH.dom, fun b r h => ?_, fun b h => ?_, (TX ρ).gst w w' hH.g (fun k hk => f.block k (hH.tab k hk).1 (fun e => ?_)), fun j o hj => ?_⟩, fun k hk => if_pos hk, fun k r h => ?_⟩
  · split at h
    · exact ⟨Nat.lt_of_lt_of_le (hH.ow b r h).1 f.size, (hH.ow b r h).2⟩
    · split at h
      · rename_i hk
        injection h with h
        subst h
        exact ⟨hcl b hk, hid⟩
      · cases h
  · obtain ⟨q1, q2⟩ := hH.tab b h
    exact ⟨Nat.lt_of_lt_of_le q1 f.size, by rw [if_pos q1]; exact q2⟩
  · rcases e with e | e
    · rw [(hH.tab k hk).2] at e; cases e
    · exact (hT k (hH.tab k hk).1 e).2 hk
  · have keep : ∀ k, own k = some id → (if k < w.heap.size then own k else if cv'.ownBlock = some k then some id else none) = some id := fun k hk => by rw [if_pos (hH.ow k id hk).1]; exact hk
    rcases Tr.get_put hj with ⟨rfl, rfl⟩ | ⟨hne, hj'⟩
    · refine ⟨v, c, h1, keep v ov, Lb, L', s, hbs, hL', ⟨s, mr, ml, cv', rl', ll', hD⟩, ⟨_, hD.blk, rfl⟩, fun k hk => ?_, keep s os⟩
      show (if k < w.heap.size then own k else if cv'.ownBlock = some k then some j else none) = some j
      rcases VB.of hD.blk hk with e | e | e | e
      · rw [e]; exact keep v ov
      · injection e with e; injection e with e; rw [← e]; exact keep mr omr
      · by_cases hlt : k < w.heap.size
        · rw [if_pos hlt]
          rcases hcv k e with h | h
          · exact h
          · omega
        · rw [if_neg hlt, if_pos e]
      · injection e with e; injection e with e; rw [← e]; exact keep ml oml
    · refine (hH.obj j o hj').keep (fun _ _ h => h) (fun b => ?_) (fun b hb => f.block b (hH.ow b j hb).1 (fun e => ?_)) f.size
      · constructor
        · intro h
          rw [if_pos (hH.ow b j h).1]
          exact h
        · intro h
          split at h
          · exact h
          · split at h
            · injection h with h
              exact absurd h.symm hne
            · cases h
      · rcases e with e | e
        · rw [hb] at e
          injection e with e
          exact hne e
        · have h3 := (hT b (hH.ow b j hb).1 e).1
          rw [hb] at h3
          cases h3
  · dsimp only at h
    split at h
    · exact .inl (hdom k r h)
    · split at h
      · rename_i hk
        exact .inr (hcell k hk)
      · cases h
theorem Stp.viewT {T : Nat → Prop} {own' : Ow} {nx id : Nat} (h : Stp σ0 own0 n0 w0 σ own nx w) (f : Fr (fun k => own k = some id ∨ T k) w w') (hT : ∀ k, T k → w0.heap.size ≤ k) (ho : ∀ k, k < w.heap.size → own' k = own k) : Stp σ0 own0 n0 w0 σ own' nx w' :=
  ⟨h.ext, h.nx, h.fr.then_ f (fun i hi e => by
      rcases e with e | e
      · cases h0 : own0 i with
        | none => rw [h.old i hi h0] at e; cases e
        | some r => exact ⟨r, rfl⟩
      · exact absurd (hT i e) (Nat.not_le.2 hi)), fun b hb h0 => by rw [ho b (Nat.lt_of_lt_of_le hb h.fr.size)]; exact h.old b hb h0⟩
end
end Ev
end Go.Proofs.YtmpokappjogehaaGreatDoor

namespace Go.Proofs.YtmpokappjogehaaGreatDoor
namespace Ev
open Go Go.RowKit
def mkC (k : Nat) (o : Str) (n i : Nat) (t : Str) (v : Str) : ECall := ⟨⟨.ofNat k, o, .ofNat n, .ofNat i, t⟩, .str v, false⟩
noncomputable def kSt : Caller XO := orK kAll (kWrite2 (runE kAll))
def lv0 : List ECall := []
def lv1 : List ECall := mkC 10 ⟨0, 0⟩ 0 0 ⟨0, 0⟩ ⟨1, 0⟩ :: mkC 9 ⟨0, 0⟩ 0 0 ⟨2, 11822⟩ ⟨2, 0⟩ :: mkC 7 ⟨0, 0⟩ 0 0 ⟨0, 0⟩ ⟨8, 144116206033436928⟩ :: mkC 5 ⟨0, 0⟩ 0 0 ⟨0, 0⟩ ⟨3, 65536⟩ :: lv0
def lv2 : List ECall := mkC 9 ⟨0, 0⟩ 0 0 ⟨3, 7305070⟩ ⟨3, 80128⟩ :: mkC 10 ⟨0, 0⟩ 0 0 ⟨0, 0⟩ ⟨5, 4352604014⟩ :: mkC 10 ⟨1, 57⟩ 0 0 ⟨0, 0⟩ ⟨1, 0⟩ :: mkC 9 ⟨1, 57⟩ 0 0 ⟨2, 11822⟩ ⟨2, 0⟩ :: mkC 7 ⟨1, 57⟩ 0 0 ⟨0, 0⟩ ⟨8, 144116012759908608⟩ :: mkC 5 ⟨1, 57⟩ 0 0 ⟨0, 0⟩ ⟨3, 65536⟩ :: lv1
def lv3 : List ECall := mkC 9 ⟨0, 0⟩ 0 0 ⟨3, 7630192⟩ ⟨3, 80129⟩ :: mkC 10 ⟨0, 0⟩ 0 0 ⟨0, 0⟩ ⟨9, 37141035966335839600⟩ :: mkC 10 ⟨1, 57⟩ 1 0 ⟨0, 0⟩ ⟨1, 0⟩ :: mkC 9 ⟨1, 57⟩ 1 0 ⟨2, 11822⟩ ⟨2, 0⟩ :: mkC 7 ⟨1, 57⟩ 1 0 ⟨0, 0⟩ ⟨8, 144116283342848256⟩ :: mkC 5 ⟨1, 57⟩ 0 0 ⟨0, 0⟩ ⟨3, 131072⟩ :: lv2
def lv4 : List ECall := mkC 9 ⟨1, 57⟩ 0 0 ⟨1, 102⟩ ⟨3, 80130⟩ :: mkC 10 ⟨1, 57⟩ 0 0 ⟨0, 0⟩ ⟨3, 65894⟩ :: mkC 7 ⟨1, 57⟩ 2 0 ⟨0, 0⟩ ⟨8, 72058298462896384⟩ :: mkC 5 ⟨1, 57⟩ 0 0 ⟨0, 0⟩ ⟨3, 196608⟩ :: lv3
def lv5 : List ECall := mkC 7 ⟨1, 57⟩ 2 0 ⟨0, 0⟩ ⟨8, 72058298463289600⟩ :: mkC 8 ⟨1, 57⟩ 2 0 ⟨0, 0⟩ ⟨64, 6043781471452992294556520804472322212490190608270233062806541838700511439951776282198063048874492436529667530856709166677458203167657623581330776193499136⟩ :: lv4
def lv6 : List ECall := mkC 7 ⟨1, 57⟩ 2 0 ⟨0, 0⟩ ⟨8, 74028623300264192⟩ :: lv5
def lv7 : List ECall := mkC 9 ⟨0, 0⟩ 0 0 ⟨1, 102⟩ ⟨3, 80131⟩ :: mkC 10 ⟨0, 0⟩ 0 0 ⟨0, 0⟩ ⟨11, 3633381640770094460333424⟩ :: mkC 7 ⟨1, 57⟩ 3 0 ⟨0, 0⟩ ⟨8, 72058298462896384⟩ :: mkC 5 ⟨1, 57⟩ 0 0 ⟨0, 0⟩ ⟨3, 262144⟩ :: lv6
def lv8 : List ECall := mkC 7 ⟨1, 57⟩ 3 0 ⟨0, 0⟩ ⟨8, 72058298463289600⟩ :: mkC 8 ⟨1, 57⟩ 3 0 ⟨0, 0⟩ ⟨64, 6043781471452992294556520804472322212490190608270233062806541838700511439951776282198063048874492436529667530856709166677458203167657623581330776193499136⟩ :: lv7
def lv9 : List ECall := mkC 7 ⟨1, 57⟩ 3 0 ⟨0, 0⟩ ⟨8, 74028623300264192⟩ :: lv8
def lv10 : List ECall := mkC 7 ⟨1, 57⟩ 0 0 ⟨0, 0⟩ ⟨8, 146086337596883200⟩ :: lv9
def lv11 : List ECall := mkC 6 ⟨1, 49⟩ 0 0 ⟨0, 0⟩ ⟨11, 0⟩ :: mkC 4 ⟨1, 49⟩ 0 0 ⟨0, 0⟩ ⟨1, 0⟩ :: mkC 1 ⟨1, 49⟩ 0 0 ⟨0, 0⟩ ⟨12, 620178945966709234854789120⟩ :: lv10
def lv12 : List ECall := mkC 6 ⟨1, 50⟩ 0 0 ⟨0, 0⟩ ⟨11, 0⟩ :: mkC 4 ⟨1, 50⟩ 0 0 ⟨0, 0⟩ ⟨1, 0⟩ :: mkC 1 ⟨1, 50⟩ 0 0 ⟨0, 0⟩ ⟨12, 620178946038766833187684352⟩ :: lv11
def lv13 : List ECall := mkC 4 ⟨1, 49⟩ 0 0 ⟨0, 0⟩ ⟨21, 2923047979938324808619112260490423505276396110080⟩ :: mkC 4 ⟨1, 49⟩ 0 0 ⟨0, 0⟩ ⟨11, 1208962798952644490625024⟩ :: mkC 11 ⟨1, 49⟩ 0 0 ⟨0, 0⟩ ⟨4, 65792⟩ :: mkC 5 ⟨1, 49⟩ 0 0 ⟨0, 0⟩ ⟨3, 65536⟩ :: lv12
def lv14 : List ECall := mkC 6 ⟨3, 3223089⟩ 0 0 ⟨0, 0⟩ ⟨11, 0⟩ :: mkC 11 ⟨1, 49⟩ 0 0 ⟨0, 0⟩ ⟨4, 131584⟩ :: mkC 11 ⟨1, 49⟩ 0 0 ⟨0, 0⟩ ⟨4, 131328⟩ :: mkC 4 ⟨3, 3223089⟩ 0 0 ⟨0, 0⟩ ⟨21, 2923047979938324808619112260490423505276396110080⟩ :: mkC 1 ⟨3, 3223089⟩ 0 0 ⟨0, 0⟩ ⟨14, 40644047402874400581419523899392⟩ :: mkC 5 ⟨1, 49⟩ 0 0 ⟨0, 0⟩ ⟨3, 65537⟩ :: lv13
def lv15 : List ECall := mkC 11 ⟨1, 49⟩ 0 0 ⟨0, 0⟩ ⟨4, 66048⟩ :: mkC 4 ⟨1, 49⟩ 0 0 ⟨0, 0⟩ ⟨11, 1213703612179587845325056⟩ :: lv14
def lv16 : List ECall := mkC 11 ⟨1, 49⟩ 0 0 ⟨0, 0⟩ ⟨4, 65792⟩ :: mkC 4 ⟨3, 3223089⟩ 0 0 ⟨0, 0⟩ ⟨11, 1208962798952644490625024⟩ :: lv15
end Ev
end Go.Proofs.YtmpokappjogehaaGreatDoor
