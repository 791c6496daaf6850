/- State: encodings, plain: different states have different encodings. -/
import Derived.Test.YtpnchdgplpdefaaDoorGwX
import Derived.Test.YtpnchdgplpdefaaDoorSbU
namespace Go.Proofs.YtpnchdgplpdefaaDoor
open Go.RowKit Go.Shelf

def textB (l : List UInt8) : List UInt8 := enc l.length ++ l
def nameU (u : Usa) (n : NameV) : List UInt8 := enc n.kind.toNat ++ ((if u.owner then textB (strL n.owner) else []) ++ ((if u.number then enc n.number.toNat else []) ++ ((if u.index then enc n.index.toNat else []) ++ (if u.text then textB (strL n.text) else []))))
def nameL (n : NameV) : List UInt8 := match usaL[n.kind.toNat]? with
  | some u => nameU u n
  | none => []
def entB (x : Ent) : List UInt8 := textB (nameL x.1) ++ textB (strL x.2)
def encS (L : List Ent) : List UInt8 := enc L.length ++ L.flatMap entB

theorem enc_cut {a b : Nat} {r r' : List UInt8} (ha : a < 9223372036854775808) (hb : b < 9223372036854775808) (h : enc a ++ r = enc b ++ r') : a = b ∧ r = r' := by
  have h1 := pn_enc9 a r ha
  rw [h, pn_enc9 b r' hb] at h1
  simp only [Prod.mk.injEq, and_true] at h1
  obtain ⟨rfl, _⟩ := h1
  exact ⟨rfl, List.append_cancel_left h⟩
theorem textB_cut {s t r r' : List UInt8} (hs : s.length < 9223372036854775808) (ht : t.length < 9223372036854775808) (h : textB s ++ r = textB t ++ r') : s = t ∧ r = r' := by
  unfold textB at h
  rw [List.append_assoc, List.append_assoc] at h
  obtain ⟨h1, h2⟩ := enc_cut hs ht h
  exact List.append_inj h2 h1
theorem strL_inj {s t : ByteArray} (h : strL s = strL t) : s = t := ByteArray.ext (Array.toList_inj.1 h)
theorem empty_of {s : ByteArray} (h : s.toList.isEmpty = true) : s = ByteArray.empty := by
  rw [ByteArray.toList_eq, List.isEmpty_iff] at h
  exact ByteArray.ext (Array.toList_inj.1 h)
structure UsParts (u : Usa) (n : NameV) : Prop where
  o0 : u.owner = false → n.owner = ByteArray.empty
  n0 : u.number = false → n.number = 0
  i0 : u.index = false → n.index = 0
  t0 : u.text = false → n.text = ByteArray.empty
  n1 : u.number = true → 0 ≤ n.number ∧ n.number ≤ 1073741824
  i1 : u.index = true → 0 ≤ n.index ∧ n.index ≤ u.most
theorem okUs_parts {u : Usa} {n : NameV} (h : okUs u n = true) : UsParts u n := by
  simp only [okUs, Bool.and_eq_true, Bool.or_eq_true, Bool.not_eq_true', decide_eq_true_eq] at h
  obtain ⟨⟨⟨⟨⟨⟨⟨h1, h2⟩, h3⟩, h4⟩, _⟩, h6⟩, h7⟩, _⟩ := h
  refine ⟨fun e => ?_, fun e => ?_, fun e => ?_, fun e => ?_, fun e => ?_, fun e => ?_⟩
  · rcases h1 with h | h
    · rw [e] at h; cases h
    · exact empty_of h
  · rcases h2 with h | h
    · rw [e] at h; cases h
    · exact beq_iff_eq.1 h
  · rcases h3 with h | h
    · rw [e] at h; cases h
    · exact beq_iff_eq.1 h
  · rcases h4 with h | h
    · rw [e] at h; cases h
    · exact empty_of h
  · rcases h6 with h | h
    · rw [e] at h; cases h
    · exact h
  · rcases h7 with h | h
    · rw [e] at h; cases h
    · exact h
theorem okNm_us {n : NameV} (h : okNm n = true) : (1 ≤ n.kind ∧ n.kind ≤ 20) ∧ ∃ u, usaL[n.kind.toNat]? = some u ∧ okUs u n = true := by
  simp only [okNm, Bool.and_eq_true, decide_eq_true_eq] at h
  obtain ⟨⟨h1, h2⟩, h3⟩ := h
  refine ⟨⟨h1, h2⟩, ?_⟩
  cases hu : usaL[n.kind.toNat]? with
  | none => rw [hu] at h3; cases h3
  | some u => rw [hu] at h3; exact ⟨u, rfl, h3⟩
theorem most_le {k : Nat} {u : Usa} (h : usaL[k]? = some u) : u.most ≤ 1073741824 := by
  have hm : ∀ x ∈ usaL, x.most ≤ 1073741824 := by decide
  exact hm u (List.mem_of_getElem? h)
theorem nameU_inj {u : Usa} {a b : NameV} (hm : u.most ≤ 1073741824) (ha : okUs u a = true) (hb : okUs u b = true) (ga : GoodN a) (gb : GoodN b) (hk : 0 ≤ a.kind ∧ 0 ≤ b.kind ∧ a.kind ≤ 20 ∧ b.kind ≤ 20) (h : nameU u a = nameU u b) : a = b := by
  have pa := okUs_parts ha
  have pb := okUs_parts hb
  have za := ga.owner
  have zb := gb.owner
  have ya := ga.text
  have yb := gb.text
  clear ha hb ga gb
  obtain ⟨wd, uo, un, ui, ut, mo⟩ := u
  obtain ⟨k, o, n, i, t⟩ := a
  obtain ⟨k', o', n', i', t'⟩ := b
  simp only [nameU] at h hk hm za zb ya yb
  obtain ⟨e1, h⟩ := enc_cut (by omega) (by omega) h
  have ek : k = k' := by omega
  have eo : o = o' ∧ (if un = true then enc n.toNat else []) ++ ((if ui = true then enc i.toNat else []) ++ (if ut = true then textB (strL t) else [])) = (if un = true then enc n'.toNat else []) ++ ((if ui = true then enc i'.toNat else []) ++ (if ut = true then textB (strL t') else [])) := by
    cases uo
    · exact ⟨(pa.o0 rfl).trans (pb.o0 rfl).symm, by simpa using h⟩
    · simp only [if_true] at h
      obtain ⟨e, h⟩ := textB_cut (by rw [strL_length]; omega) (by rw [strL_length]; omega) h
      exact ⟨strL_inj e, h⟩
  obtain ⟨eo, h⟩ := eo
  have en : n = n' ∧ (if ui = true then enc i.toNat else []) ++ (if ut = true then textB (strL t) else []) = (if ui = true then enc i'.toNat else []) ++ (if ut = true then textB (strL t') else []) := by
    cases un
    · exact ⟨(pa.n0 rfl).trans (pb.n0 rfl).symm, by simpa using h⟩
    · simp only [if_true] at h
      have q1 := pa.n1 rfl
      have q2 := pb.n1 rfl
      simp only at q1 q2
      obtain ⟨e, h⟩ := enc_cut (by omega) (by omega) h
      exact ⟨by omega, h⟩
  obtain ⟨en, h⟩ := en
  have ei : i = i' ∧ (if ut = true then textB (strL t) else []) = (if ut = true then textB (strL t') else []) := by
    cases ui
    · exact ⟨(pa.i0 rfl).trans (pb.i0 rfl).symm, by simpa using h⟩
    · simp only [if_true] at h
      have q1 := pa.i1 rfl
      have q2 := pb.i1 rfl
      simp only at q1 q2
      obtain ⟨e, h⟩ := enc_cut (by omega) (by omega) h
      exact ⟨by omega, h⟩
  obtain ⟨ei, h⟩ := ei
  have et : t = t' := by
    cases ut
    · exact (pa.t0 rfl).trans (pb.t0 rfl).symm
    · simp only [if_true] at h
      have h2 : textB (strL t) ++ [] = textB (strL t') ++ [] := by rw [h]
      exact strL_inj (textB_cut (by rw [strL_length]; omega) (by rw [strL_length]; omega) h2).1
  rw [ek, eo, en, ei, et]
theorem nameL_of {n : NameV} {u : Usa} (h : usaL[n.kind.toNat]? = some u) : nameL n = nameU u n := by
  unfold nameL
  rw [h]
theorem nameL_inj {a b : NameV} (ha : okNm a = true) (hb : okNm b = true) (ga : GoodN a) (gb : GoodN b) (h : nameL a = nameL b) : a = b := by
  obtain ⟨ka, u, hu, oa⟩ := okNm_us ha
  obtain ⟨kb, u', hu', ob⟩ := okNm_us hb
  rw [nameL_of hu, nameL_of hu'] at h
  have h2 := h
  simp only [nameU] at h2
  obtain ⟨e1, _⟩ := enc_cut (by omega) (by omega) h2
  rw [← e1, hu] at hu'
  cases hu'
  exact nameU_inj (most_le hu) oa ob ga gb ⟨by omega, by omega, ka.2, kb.2⟩ h
theorem nameU_length (u : Usa) (n : NameV) : (nameU u n).length ≤ 50 + n.owner.size + n.text.size := by
  have h1 := enc_length n.kind.toNat
  have h2 := enc_length n.number.toNat
  have h3 := enc_length n.index.toNat
  have h4 := enc_length (strL n.owner).length
  have h5 := enc_length (strL n.text).length
  have h6 := strL_length n.owner
  have h7 := strL_length n.text
  simp only [nameU, List.length_append, textB]
  split <;> split <;> split <;> split <;> simp only [List.length_append, List.length_nil] <;> omega
theorem nameL_length (n : NameV) : (nameL n).length ≤ 50 + n.owner.size + n.text.size := by
  unfold nameL
  split
  · exact nameU_length _ n
  · simp
structure GoodE (L : List Ent) : Prop where
  ok : ∀ x ∈ L, okNm x.1 = true
  name : ∀ x ∈ L, GoodN x.1
  value : ∀ x ∈ L, x.2.size ≤ 1099511627776
theorem ents_inj : ∀ {A B : List Ent}, GoodE A → GoodE B → A.length = B.length → A.flatMap entB = B.flatMap entB → A = B
  | [], [], _, _, _, _ => rfl
  | [], _ :: _, _, _, h, _ => by simp at h
  | _ :: _, [], _, _, h, _ => by simp at h
  | x :: a, y :: b, ga, gb, hl, h => by
    simp only [List.flatMap_cons, entB, List.append_assoc] at h
    have hx := ga.name x (by simp)
    have hy := gb.name y (by simp)
    have vx := ga.value x (by simp)
    have vy := gb.value y (by simp)
    have lx := nameL_length x.1
    have ly := nameL_length y.1
    have ox := hx.owner
    have oy := hy.owner
    have tx := hx.text
    have ty := hy.text
    obtain ⟨e1, h⟩ := textB_cut (by omega) (by omega) h
    obtain ⟨e2, h⟩ := textB_cut (by rw [strL_length]; omega) (by rw [strL_length]; omega) h
    have e3 := nameL_inj (ga.ok x (by simp)) (gb.ok y (by simp)) hx hy e1
    have e4 := strL_inj e2
    have e : x = y := Prod.ext e3 e4
    rw [e, ents_inj (A := a) (B := b) ⟨fun z hz => ga.ok z (by simp [hz]), fun z hz => ga.name z (by simp [hz]), fun z hz => ga.value z (by simp [hz])⟩ ⟨fun z hz => gb.ok z (by simp [hz]), fun z hz => gb.name z (by simp [hz]), fun z hz => gb.value z (by simp [hz])⟩ (by simpa using hl) h]
theorem encS_inj {A B : List Ent} (ga : GoodE A) (gb : GoodE B) (ha : A.length ≤ 1048576) (hb : B.length ≤ 1048576) (h : encS A = encS B) : A = B := by
  obtain ⟨e1, e2⟩ := enc_cut (by omega) (by omega) h
  exact ents_inj ga gb e1 e2
end Go.Proofs.YtpnchdgplpdefaaDoor
