/- State: changes that lead from one list to another, plain. -/
import Derived.Test.YtpnchdgplpdefaaDoorLmSbU
import Derived.Test.YtpnchdgplpdefaaDoorLmSbK
namespace Go.Proofs.YtpnchdgplpdefaaDoor
open Go.RowKit Go.Shelf
theorem del_here {p a : List Ent} {x : Ent} (h : ∀ y ∈ p, cmpN y.1 x.1 < 0) : delL x.1 (p ++ x :: a) = p ++ a := by
 rw [delL_gt p _ (fun y hy => cmpN_pos (h y hy)), delL, if_pos (cmpN_is.refl _)]
theorem ins_before {p a : List Ent} {x y : Ent} (h : ∀ z ∈ p, cmpN z.1 y.1 < 0) (hc : cmpN y.1 x.1 < 0) : insL y.1 y.2 (p ++ x :: a) = (p ++ [y]) ++ x :: a := by
 rw [insL_gt p _ (fun z hz => cmpN_pos (h z hz)), insL, if_pos hc, List.append_assoc]
 rfl
theorem ins_last {p : List Ent} {y : Ent} (h : ∀ z ∈ p, cmpN z.1 y.1 < 0) : insL y.1 y.2 p = p ++ [y] := by
 have e := insL_gt (nm := y.1) (v := y.2) p [] (fun z hz => cmpN_pos (h z hz))
 rw [List.append_nil] at e
 rw [e]
 rfl
theorem ins_here {p a : List Ent} {x y : Ent} (h : ∀ z ∈ p, cmpN z.1 y.1 < 0) (hc : cmpN y.1 x.1 = 0) : insL y.1 y.2 (p ++ x :: a) = (p ++ [y]) ++ a := by
 rw [insL_gt p _ (fun z hz => cmpN_pos (h z hz)), insL, if_neg (by omega), if_pos hc, List.append_assoc]
 rfl
theorem SortL.glue {p a b : List Ent} {y : Ent} (h1 : SortL (p ++ a)) (h2 : SortL (p ++ y :: b)) (h : ∀ z ∈ a, cmpN y.1 z.1 < 0) : SortL ((p ++ [y]) ++ a) := by
 obtain ⟨_, q1, q2⟩ := List.pairwise_append.1 h1
 obtain ⟨q3, _, q4, _⟩ := SortL.parts h2
 refine List.pairwise_append.2 ⟨List.pairwise_append.2 ⟨q3, List.pairwise_singleton _ _, fun z hz u hu => ?_⟩, q1, fun z hz u hu => ?_⟩
 ·rw [List.mem_singleton] at hu
  rw [hu]
  exact q4 z hz
 ·rcases List.mem_append.1 hz with h3 | h3
  ·exact q2 z h3 u hu
  ·rw [List.mem_singleton] at h3
   rw [h3]
   exact h u hu
theorem SortL.gone {p a : List Ent} {x : Ent} (h : SortL (p ++ x :: a)) : SortL (p ++ a) := h.sublist ((List.Sublist.refl p).append (List.sublist_cons_self x a))
theorem run_diff : ∀ (a b p : List Ent), SortL (p ++ a) → SortL (p ++ b) → runC (diffL a b) (p ++ a) = p ++ b
 | [], [], p, _, _ => by rw [diffL]; rfl
 | x :: a, [], p, ha, hb => by
  obtain ⟨_, _, q, _⟩ := SortL.parts ha
  rw [diffL]
  show runC (diffL a []) (delL x.1 (p ++ x :: a)) = _
  rw [del_here q]
  exact run_diff a [] p ha.gone hb
 | [], y :: b, p, ha, hb => by
  obtain ⟨_, _, q, _⟩ := SortL.parts hb
  rw [diffL]
  show runC (diffL [] b) (insL y.1 y.2 (p ++ [])) = _
  rw [List.append_nil, ins_last q]
  have h := run_diff [] b (p ++ [y]) (SortL.glue ha hb (fun z hz => by cases hz)) (by rw [List.append_assoc]; exact hb)
  rw [List.append_nil, List.append_assoc] at h
  exact h
 | x :: a, y :: b, p, ha, hb => by
  obtain ⟨_, sa, qx, la⟩ := SortL.parts ha
  obtain ⟨_, sb, qy, lb⟩ := SortL.parts hb
  rw [diffL]
  split
  next =>
   show runC (diffL a (y :: b)) (delL x.1 (p ++ x :: a)) = _
   rw [del_here qx]
   exact run_diff a (y :: b) p ha.gone hb
  next hn =>
   split
   next hp =>
    have hc := cmpN_neg hp
    show runC (diffL (x :: a) b) (insL y.1 y.2 (p ++ x :: a)) = _
    rw [ins_before qy hc]
    have hlt : ∀ z ∈ x :: a, cmpN y.1 z.1 < 0 := fun z hz => by
     rcases List.mem_cons.1 hz with rfl | h
     ·exact hc
     ·exact cmpN_is.trans _ _ _ hc (la z h)
    have h := run_diff (x :: a) b (p ++ [y]) (SortL.glue ha hb hlt) (by rw [List.append_assoc]; exact hb)
    rw [h, List.append_assoc]
    rfl
   next hq =>
    have he : cmpN x.1 y.1 = 0 := by omega
    have hxy : x.1 = y.1 := cmpN_is.eq _ _ he
    have hc : cmpN y.1 x.1 = 0 := by rw [hxy]; exact cmpN_is.refl _
    have hg : SortL ((p ++ [y]) ++ a) := SortL.glue ha.gone hb (fun z hz => by rw [← hxy]; exact la z hz)
    have h := run_diff a b (p ++ [y]) hg (by rw [List.append_assoc]; exact hb)
    rw [List.append_assoc] at h
    split
    next hv =>
     have e : x = y := Prod.ext hxy ((beqB _ _).1 hv)
     rw [e]
     rw [List.append_assoc] at h
     exact h
    next =>
     show runC (diffL a b) (insL y.1 y.2 (p ++ x :: a)) = _
     rw [ins_here qy hc, List.append_assoc]
     rw [List.append_assoc] at h
     exact h
termination_by a b => a.length + b.length
theorem diff_run {a b : List Ent} (ha : SortL a) (hb : SortL b) : runC (diffL a b) a = b := run_diff a b [] ha hb
theorem diff_nil {a b : List Ent} (ha : SortL a) (hb : SortL b) : diffL a b = [] ↔ a = b := ⟨fun h => by have e := diff_run ha hb; rw [h] at e; exact e, fun h => by rw [h]; exact diff_self b⟩
end Go.Proofs.YtpnchdgplpdefaaDoor
