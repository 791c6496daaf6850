/- The reference's Decode of images (written by genI8.py). -/
import Derived.Lib.ReflectliteSwap
import Derived.Test.YtfdcmjjafngonaaDoorImM
namespace Go.Proofs.YtfdcmjjafngonaaDoor
open Go.RowKit

/-- A store into one cell of a block of the call's own. -/
theorem wpList_storeFld {P : Program} {ops : Array Oper} {rest : List Oper} {o : Oper} {a : Act} {w : World} {Q : Exit → Act → World → Prop} (hgd : o.guard = none) (ty : TypeId) (x y : Operand) (ho : o.op = .store ty x y)
    (g f : Nat) (v : Value) (hx : a.eval x = .pointer (some ⟨g, f, none⟩)) (hy : a.eval y = v) (h1 : v.oneCell' = true) (hi : (P.info? ty).map (·.size) = some 1)
    (t : TypeId) (cs cs' : Array Value) (hB : Blk w g t cs) (hf : f < cs.size) (hcs : cs.setIfInBounds f v = cs')
    (h : ∀ w', Blk w' g t cs' → Fr (fun k => k = g) w w' → wpList P ops Q rest (a.put o.dst undef) w') : wpList P ops Q (o :: rest) a w := by
  subst hcs
  obtain ⟨ie, hie, hs⟩ : ∃ ie, P.info? ty = some ie ∧ ie.size = 1 := by
    cases he : P.info? ty with
    | none => rw [he] at hi; cases hi
    | some ie => rw [he] at hi; exact ⟨ie, rfl, by simpa using hi⟩
  have hrun := Lib.rl_storeVar_one (P := P) ty ie hie hs ⟨g, f, none⟩ v (cs[f]) h1 w (by rw [hB.cell]; simp [hf]) (hB.frozen _)
  refine wpList_plain hgd fun K hK => ?_
  unfold Oper.wp execOp
  simp only [ho, hx, hy, Instr.storeAt, Instr.sureAddr, Sem.run_bind, Sem.run_pure, Result.andThen_ok, hrun]
  exact hK _ _ (h _ (hB.set_ f v) (Fr.setCell (T := fun k => k = g) (Fr.refl _ w) (fun _ => rfl) v))

/-- The number at the beginning of a text, and the rest. -/
def takeL (l : List UInt8) : Int × List UInt8 := if (pn l 9).2.2 = 0 then (((pn l 9).1 : Nat), l.drop (pn l 9).2.1) else (-1, [])
def pieceL (l : List UInt8) : List UInt8 × List UInt8 :=
  if (takeL l).1 < 0 ∨ ((takeL l).2.length : Int) < (takeL l).1 then ([], []) else ((takeL l).2.take (takeL l).1.toNat, (takeL l).2.drop (takeL l).1.toNat)
def decT (l : List UInt8) (p1 p2 : List UInt8 × List UInt8) (p3 p4 : Int × List UInt8) : RImg :=
  if checkI p1.1.length p2.1.length p3.1 p4.1 ≠ 0 ∨ encV p1.1 p2.1 p3.1 p4.1 ≠ l ∨ p4.2.length ≠ 8 then (([], [], 0, 0), 3) else ((p1.1, p2.1, p3.1, p4.1), 0)
/-- What the reference's Decode returns. -/
def decR (l : List UInt8) : RImg :=
  if 4200 < l.length then (([], [], 0, 0), 5) else if isImg l = false then (([], [], 0, 0), 3) else if l.length < 12 then (([], [], 0, 0), 4)
  else if chk8 (l.take (l.length - 8)) ≠ l.drop (l.length - 8) then (([], [], 0, 0), 27)
  else decT l (pieceL (l.drop 4)) (pieceL (pieceL (l.drop 4)).2) (takeL (pieceL (pieceL (l.drop 4)).2).2) (takeL (takeL (pieceL (pieceL (l.drop 4)).2).2).2)

theorem takeL_range (l : List UInt8) : -1 ≤ (takeL l).1 ∧ (takeL l).1 ≤ 9223372036854775807 ∧ (takeL l).2.length ≤ l.length := by
  have := pn_lt9 l
  unfold takeL
  split
  · refine ⟨by simp only; omega, by simp only; omega, ?_⟩
    simp only [List.length_drop]
    omega
  · simp
theorem pieceL_len (l : List UInt8) : (pieceL l).1.length ≤ l.length ∧ (pieceL l).2.length ≤ l.length := by
  have := takeL_range l
  unfold pieceL
  split
  · simp
  · simp only [List.length_take, List.length_drop]
    omega

theorem strL_tail (s : ByteArray) (k : Nat) : s.extract k s.size = ⟨((strL s).drop k).toArray⟩ := by
  refine ba_of _ _ ?_
  rw [strL_extract, List.take_of_length_le (by rw [List.length_drop, strL_length]; omega)]

set_option maxRecDepth 100000 in
set_option maxHeartbeats 1000000 in
theorem take_any (s : ByteArray) (w : World) (hs : s.size ≤ 1099511627776) :
    Calls Tryd.prog 48 #[.string s] w (SameIn w (.tuple #[.int .i64 (takeL (strL s)).1, .string ⟨(takeL (strL s)).2.toArray⟩])) := by
  obtain ⟨v, w1, hcv, hb⟩ := BGrew.conv w s hs
  have hb' : BGrew w w1 v (strL s) := hb
  obtain ⟨g, c, rfl, hR⟩ := hb'.slice
  have HR := Lib.hid hR
  have HF := Lib.hid hb'.fr
  have hz := pn_size (strL s) 9 (by omega)
  rw [strL_length] at hz
  have hlt := pn_lt9 (strL s)
  have ht := strL_tail s (pn (strL s) 9).2.1
  unfold takeL
  clear hb hb' hR
  rw [strL_length] at *
  by_cases h : (pn (strL s) 9).2.2 = 0
  · rw [if_pos h]
    have t1 : ((((pn (strL s) 9).2.2 : Nat) : Int) != 0) = false := by rw [bne_eq_false_iff_eq]; omega
    simp only
    rw [← ht]
    have HP := Lib.hid (fun w => refParse_any (some ⟨g, 0, none⟩) s.size c (strL s) w (fun k => k = g))
    generalize (pn (strL s) 9).1 = n at *
    generalize (pn (strL s) 9).2.1 = k at *
    generalize (pn (strL s) 9).2.2 = e at *
    have k1 : (k : Int) ≤ (s.size : Int) := by omega
    have k2 : k ≤ s.size := by omega
    clear ht h hz
    go_enter Tryd.func48, Tryd.ntmps48
    go_wp2_with fail
    refine (HP.out _ HR.out hs).mono ?_
    rintro e' w2 ⟨rfl, rfl⟩
    clear HP HR hcv
    go_wp2
    go_quiet (fail)
    go_wp2
    go_ret2
    exact ⟨rfl, HF.out.drewN _⟩
  · rw [if_neg h]
    have t1 : ((((pn (strL s) 9).2.2 : Nat) : Int) != 0) = true := by rw [bne_iff_ne]; omega
    have HP := Lib.hid (fun w => refParse_any (some ⟨g, 0, none⟩) s.size c (strL s) w (fun k => k = g))
    generalize (pn (strL s) 9).1 = n at *
    generalize (pn (strL s) 9).2.1 = k at *
    generalize (pn (strL s) 9).2.2 = e at *
    clear ht h hz
    go_enter Tryd.func48, Tryd.ntmps48
    go_wp2_with fail
    refine (HP.out _ HR.out hs).mono ?_
    rintro e' w2 ⟨rfl, rfl⟩
    clear HP HR hcv
    go_wp2
    go_ret2
    exact ⟨rfl, HF.out⟩

set_option maxRecDepth 100000 in
set_option maxHeartbeats 1000000 in
theorem piece_any (s : ByteArray) (w : World) (hs : s.size ≤ 1099511627776) :
    Calls Tryd.prog 47 #[.string s] w (SameIn w (.tuple #[.string ⟨(pieceL (strL s)).1.toArray⟩, .string ⟨(pieceL (strL s)).2.toArray⟩])) := by
  have CT := Lib.hid (fun w => take_any s w hs)
  have hr := takeL_range (strL s)
  rw [strL_length] at hr
  obtain ⟨R, hR⟩ : ∃ R : ByteArray, R = ⟨(takeL (strL s)).2.toArray⟩ := ⟨_, rfl⟩
  have hRL : strL R = (takeL (strL s)).2 := by rw [hR, strL_mk]
  rw [← hR] at CT
  unfold pieceL
  rw [← hRL] at *
  rw [strL_length] at *
  generalize (takeL (strL s)).1 = n at *
  clear hR hRL
  by_cases h1 : n < 0
  · rw [if_pos (.inl h1)]
    have t1 : decide (n < 0) = true := decide_eq_true h1
    clear h1
    go_enter Tryd.func47, Tryd.ntmps47
    go_wp2_with fail
    refine (CT.out _).mono ?_
    rintro e' w2 ⟨rfl, f2⟩
    have F2 := Lib.hid f2
    clear f2 CT
    go_wp2
    go_ret2
    exact ⟨rfl, F2.out⟩
  have t1 : decide (n < 0) = false := decide_eq_false h1
  by_cases h2 : (R.size : Int) < n
  · rw [if_pos (.inr h2)]
    have t2 : decide ((R.size : Int) < n) = true := decide_eq_true h2
    clear h1 h2
    go_enter Tryd.func47, Tryd.ntmps47
    go_wp2_with fail
    refine (CT.out _).mono ?_
    rintro e' w2 ⟨rfl, f2⟩
    have F2 := Lib.hid f2
    clear f2 CT
    go_wp2
    go_ret2
    exact ⟨rfl, F2.out⟩
  rw [if_neg (by omega)]
  obtain ⟨k, rfl⟩ : ∃ k : Nat, n = k := ⟨n.toNat, by omega⟩
  have t2 : decide ((R.size : Int) < (k : Int)) = false := decide_eq_false h2
  have k1 : (k : Int) ≤ (R.size : Int) := by omega
  have k2 : k ≤ R.size := by omega
  have x1 : (⟨((strL R).take k).toArray⟩ : ByteArray) = R.extract 0 k := (ba_of _ _ (by rw [strL_extract]; simp)).symm
  simp only [Int.toNat_natCast]
  rw [x1, ← strL_tail]
  clear x1 h1 h2
  go_enter Tryd.func47, Tryd.ntmps47
  go_wp2_with fail
  refine (CT.out _).mono ?_
  rintro e' w2 ⟨rfl, f2⟩
  have F2 := Lib.hid f2
  clear f2 CT
  go_wp2
  go_quiet (fail)
  go_wp2
  go_ret2
  exact ⟨rfl, F2.out.drewN _⟩

set_option maxRecDepth 100000 in
set_option maxHeartbeats 1000000 in
theorem rIsImage_any (s : ByteArray) (w : World) : Calls Tryd.prog 26 #[.string s] w fun e w' => e = .returned (.bool (isImg (strL s))) ∧ w = w' := by
  have ls := strL_length s
  unfold isImg
  by_cases h : s.size < 4
  · have t1 : decide ((4 : Int) ≤ (s.size : Int)) = false := decide_eq_false (by omega)
    rw [show decide ((strL s).take 4 = magic) = false from decide_eq_false (fun h' => by
      have := congrArg List.length h'
      rw [List.length_take, show magic.length = 4 from rfl] at this
      omega)]
    clear h ls
    go_enter Tryd.func26, Tryd.ntmps26
    go_wp2
    go_ret
    exact ⟨rfl, rfl⟩
  · have t1 : decide ((4 : Int) ≤ (s.size : Int)) = true := decide_eq_true (by omega)
    have k1 : (4 : Int) ≤ (s.size : Int) := by omega
    have k2 : 4 ≤ s.size := by omega
    have x1 : ((s.extract 0 4).toList == [127, 82, 80, 76]) = decide ((strL s).take 4 = magic) := by
      have : strL (s.extract 0 4) = (strL s).take 4 := by rw [strL_extract]; simp
      rw [← this, Bool.eq_iff_iff]
      simp [ByteArray.toList_eq, strL, magic]
    generalize decide ((strL s).take 4 = magic) = B at *
    go_enter Tryd.func26, Tryd.ntmps26
    go_wp2
    go_ret
    exact ⟨rfl, rfl⟩
end Go.Proofs.YtfdcmjjafngonaaDoor
