/-
  LanguageAnswers: whatever the input, the call returns true, and each argument reads afterwards as it read before. No conditions.
-/
import Derived.Test.YtjnjmnfacaakfaaCA7
import Derived.Test.YtjnjmnfacaakfaaRows
namespace Go.Proofs.Ytjnjmnfacaakfaa
open Go.Eng
theorem brR_len {s : List UInt8} : ∀ {n p : Nat} {cur : List Piece} {out y : List (List Piece)}, p ≤ s.length → brR n s p cur out = some y → y.length ≤ out.length + (s.length - p) + 1
 | 0, _, _, _, _, _, h => by cases h
 | n + 1, p, cur, out, y, hp, h => by
  unfold brR at h
  split at h
  ·rename_i hlt
   split at h
   ·split at h
    ·cases h
    ·have := brR_len (by omega) h
     simp only [List.length_append, List.length_cons, List.length_nil] at this
     omega
   ·split at h
    ·cases h
    ·rename_i hs
     have h1 := setR_le (s := s) (p := p) (by omega) (eq_true_of_ne_false hs)
     have h2 := nxR_le h1.2
     have := brR_len h2.2 h
     omega
  ·split at h
   ·cases h
   ·cases h
    simp
theorem brOf_len (s : List UInt8) : (brOf (branchesR s)).length ≤ s.length + 1 := by
 cases h : branchesR s with
 | none => simp [brOf]
 | some y =>
  have := brR_len (Nat.zero_le _) h
  simpa [brOf] using this
end Go.Proofs.Ytjnjmnfacaakfaa
namespace Go.Proofs.Ytjnjmnfacaakfaa
open Go.Eng
def X0 : Nat → Nat → Bool := fun _ _ => false
def stX (k : Nat) : Nat → Nat → Bool := fun j => if j < k then upd (fun _ => false) 0 true else fun _ => false
def startX (b : List (List Piece)) : Nat → Nat → Bool := closedX b (stX b.length)
def accX (b : List (List Piece)) (X : Nat → Nat → Bool) : Nat → Bool
 | 0 => false
 | q + 1 => accX b X q || X q (b.getD q []).length
def autR (b : List (List Piece)) : Aut (Nat → Nat → Bool) := { step := fun X c => stepX b X c, none := fun X => decide (noneP (GL b.length (lenB b) X)), acc := fun X => accX b X b.length, same := fun X Y => decide (sameP (GL b.length (lenB b) X) (GL b.length (lenB b) Y)) }
def refLang (s : List UInt8) : Lang × Int := if 64 < s.length then (dLang, 2) else if (branchesR s).isSome = false then (dLang, 5) else
 match bfsG (autR (brOf (branchesR s))) 17 [startX (brOf (branchesR s))] 0 [] [] with
 | some l => (l, 0)
 | none => (dLang, 2)
theorem refLang_1 {s : List UInt8} (h : 64 < s.length) : refLang s = (dLang, 2) := by rw [refLang, if_pos h]
theorem refLang_2 {s : List UInt8} (h : ¬ 64 < s.length) (h1 : (branchesR s).isSome = false) : refLang s = (dLang, 5) := by rw [refLang, if_neg h, if_pos h1]
theorem refLang_3 {s : List UInt8} (h : ¬ 64 < s.length) (h1 : ¬ (branchesR s).isSome = false) (h2 : bfsG (autR (brOf (branchesR s))) 17 [startX (brOf (branchesR s))] 0 [] [] = none) : refLang s = (dLang, 2) := by rw [refLang, if_neg h, if_neg h1, h2]
theorem refLang_4 {s : List UInt8} {l : Lang} (h : ¬ 64 < s.length) (h1 : ¬ (branchesR s).isSome = false) (h2 : bfsG (autR (brOf (branchesR s))) 17 [startX (brOf (branchesR s))] 0 [] [] = some l) : refLang s = (l, 0) := by rw [refLang, if_neg h, if_neg h1, h2]
section
variable {σ : Type} {A : Aut σ} {x : σ} {L : List σ}
theorem rowG_pre : ∀ c, ∃ z, (rowG A x L c).1 = L ++ z ∧ z.length ≤ c
 | 0 => ⟨[], by simp [rowG], Nat.le_refl _⟩
 | c + 1 => by
  obtain ⟨z, h1, h2⟩ := rowG_pre c
  unfold rowG
  split
  ·exact ⟨z, h1, by omega⟩
  ·split
   ·exact ⟨z, h1, by omega⟩
   ·exact ⟨z ++ [A.step x c], by simp [h1], by simp; omega⟩
theorem rowG_len2 : ∀ c, (rowG A x L c).2.length = c
 | 0 => rfl
 | c + 1 => by
  have := rowG_len2 c
  unfold rowG
  split
  ·simp [this]
  ·split <;> simp [this]
theorem rowG_get {k : Nat} (d : σ) (h : k < L.length) (c : Nat) : L.length ≤ (rowG A x L c).1.length ∧ (rowG A x L c).1.length ≤ L.length + c ∧ (rowG A x L c).1.getD k d = L.getD k d := by
 obtain ⟨z, h1, h2⟩ := rowG_pre (A := A) (x := x) (L := L) c
 rw [h1]
 refine ⟨by simp, by simp; omega, ?_⟩
 rw [List.getD_eq_getElem?_getD, List.getD_eq_getElem?_getD, List.getElem?_append_left h]
theorem rowG_n {c : Nat} (h : A.none (A.step x c) = true) : rowG A x L (c + 1) = ((rowG A x L c).1, (rowG A x L c).2 ++ [-1]) := by rw [rowG, if_pos h]
theorem rowG_i {c i : Nat} (h : ¬ A.none (A.step x c) = true) (h1 : idxG A (A.step x c) (rowG A x L c).1 0 = some i) : rowG A x L (c + 1) = ((rowG A x L c).1, (rowG A x L c).2 ++ [(i : Int)]) := by rw [rowG, if_neg h, h1]
theorem rowG_a {c : Nat} (h : ¬ A.none (A.step x c) = true) (h1 : idxG A (A.step x c) (rowG A x L c).1 0 = .none) : rowG A x L (c + 1) = ((rowG A x L c).1 ++ [A.step x c], (rowG A x L c).2 ++ [((rowG A x L c).1.length : Int)]) := by rw [rowG, if_neg h, h1]
theorem bfsG_step {n k : Nat} {B : List Bool} {N : List (List Int)} (d : σ) (hn : 0 < n) (h : k < L.length) (h1 : ¬ 16 < (rowG A (L.getD k d) L 37).1.length) : bfsG A n L k B N = bfsG A (n - 1) (rowG A (L.getD k d) L 37).1 (k + 1) (B ++ [A.acc (L.getD k d)]) (N ++ [(rowG A (L.getD k d) L 37).2]) := by
 obtain ⟨n, rfl⟩ : ∃ j, n = j + 1 := ⟨n - 1, by omega⟩
 have e : L[k]? = some (L.getD k d) := by rw [List.getD_eq_getElem?_getD, List.getElem?_eq_getElem h]; rfl
 rw [bfsG, e]
 simp only
 rw [if_neg h1]; rfl
theorem bfsG_many {n k : Nat} {B : List Bool} {N : List (List Int)} (d : σ) (hn : 0 < n) (h : k < L.length) (h1 : 16 < (rowG A (L.getD k d) L 37).1.length) : bfsG A n L k B N = .none := by
 obtain ⟨n, rfl⟩ : ∃ j, n = j + 1 := ⟨n - 1, by omega⟩
 have e : L[k]? = some (L.getD k d) := by rw [List.getD_eq_getElem?_getD, List.getElem?_eq_getElem h]; rfl
 rw [bfsG, e]
 simp only
 rw [if_pos h1]
theorem bfsG_end {n k : Nat} {B : List Bool} {N : List (List Int)} (hn : 0 < n) (h : ¬ k < L.length) : bfsG A n L k B N = some { Accept := B, Next := N } := by
 obtain ⟨n, rfl⟩ : ∃ j, n = j + 1 := ⟨n - 1, by omega⟩
 rw [bfsG, List.getElem?_eq_none (by omega)]
end
section
variable {b : List (List Piece)}
theorem getD_GLM {L : List (Nat → Nat → Bool)} {k : Nat} (h : k < L.length) : (L.map (GL b.length (lenB b))).getD k [] = GL b.length (lenB b) (L.getD k X0) := by
 rw [List.getD_eq_getElem?_getD, List.getD_eq_getElem?_getD, List.getElem?_map, List.getElem?_eq_getElem h]; rfl
theorem findL_idx (X : Nat → Nat → Bool) : ∀ (L : List (Nat → Nat → Bool)) (i : Nat), findL (GL b.length (lenB b) X) (L.map (GL b.length (lenB b))) (i : Int) = match idxG (autR b) X L i with
  | some j => (j : Int)
  | .none => -1
 | [], _ => rfl
 | Y :: L, i => by
  rw [List.map_cons, findL, idxG]
  have e : (autR b).same Y X = decide (sameP (GL b.length (lenB b) Y) (GL b.length (lenB b) X)) := rfl
  rw [e]
  by_cases h : sameP (GL b.length (lenB b) Y) (GL b.length (lenB b) X)
  ·rw [if_pos h, if_pos (decide_eq_true h)]
  ·rw [if_neg h, if_neg (by simpa using h)]
   exact findL_idx X L (i + 1)
theorem idx_of_find {X : Nat → Nat → Bool} {L : List (Nat → Nat → Bool)} (h : ¬ findL (GL b.length (lenB b) X) (L.map (GL b.length (lenB b))) 0 < 0) : ∃ i : Nat, idxG (autR b) X L 0 = some i ∧ findL (GL b.length (lenB b) X) (L.map (GL b.length (lenB b))) 0 = (i : Int) := by
 have e := findL_idx (b := b) X L 0
 rw [show ((0 : Nat) : Int) = 0 from rfl] at e
 cases hi : idxG (autR b) X L 0 with
 | none => rw [hi] at e; rw [e] at h; exact absurd (by decide) h
 | some i => rw [hi] at e; exact ⟨i, rfl, e⟩
theorem idx_no_find {X : Nat → Nat → Bool} {L : List (Nat → Nat → Bool)} (h : findL (GL b.length (lenB b) X) (L.map (GL b.length (lenB b))) 0 < 0) : idxG (autR b) X L 0 = .none := by
 have e := findL_idx (b := b) X L 0
 rw [show ((0 : Nat) : Int) = 0 from rfl] at e
 cases hi : idxG (autR b) X L 0 with
 | none => rfl
 | some i => rw [hi] at e; rw [e] at h; simp at h; omega
theorem GL_shape (X Y : Nat → Nat → Bool) : Shape (GL b.length (lenB b) X) (GL b.length (lenB b) Y) := by
 refine ⟨by rw [GL_len, GL_len], fun j => ?_⟩
 by_cases h : j < b.length
 ·rw [GL_rlen h, GL_rlen h]
 ·rw [List.getD_eq_getElem?_getD, List.getD_eq_getElem?_getD, List.getElem?_eq_none (by rw [GL_len]; omega), List.getElem?_eq_none (by rw [GL_len]; omega)]
theorem GL_small (X : Nat → Nat → Bool) (hm : ∀ k, (b.getD k []).length < 1000) (j : Nat) : ((GL b.length (lenB b) X).getD j []).length ≤ 1000 := by
 by_cases h : j < b.length
 ·rw [GL_rlen h]; have := hm j; unfold lenB; omega
 ·rw [List.getD_eq_getElem?_getD, List.getElem?_eq_none (by rw [GL_len]; omega)]; simp
def atR (b : List (List Piece)) (x : Nat → Nat → Bool) (L : List (Nat → Nat → Bool)) (c : Nat) : Int := match idxG (autR b) (stepX b x c) (rowG (autR b) x L c).1 0 with
 | some i => (i : Int)
 | .none => ((rowG (autR b) x L c).1.length : Int)
theorem rowR_n {x : Nat → Nat → Bool} {L : List (Nat → Nat → Bool)} {c : Nat} (h : decide (noneP (GL b.length (lenB b) (stepX b x c))) = true) : (rowG (autR b) x L c).1 = (rowG (autR b) x L (c + 1)).1 ∧ (rowG (autR b) x L c).2 ++ [-1] = (rowG (autR b) x L (c + 1)).2 := by
 rw [rowG_n (A := autR b) h]; exact ⟨rfl, rfl⟩
theorem rowR_at {x : Nat → Nat → Bool} {L : List (Nat → Nat → Bool)} {c : Nat} (h : decide (noneP (GL b.length (lenB b) (stepX b x c))) = false) : (rowG (autR b) x L c).2 ++ [atR b x L c] = (rowG (autR b) x L (c + 1)).2 := by
 have h' : ¬ (autR b).none ((autR b).step x c) = true := by
  intro h2
  have h2 : decide (noneP (GL b.length (lenB b) (stepX b x c))) = true := h2
  rw [h] at h2; cases h2
 unfold atR
 have e : (autR b).step x c = stepX b x c := rfl
 cases hi : idxG (autR b) (stepX b x c) (rowG (autR b) x L c).1 0 with
 | none => rw [rowG_a h' (by rw [e]; exact hi)]
 | some i => rw [rowG_i h' (by rw [e]; exact hi)]
theorem rowR_i {x : Nat → Nat → Bool} {L : List (Nat → Nat → Bool)} {c : Nat} (h : decide (noneP (GL b.length (lenB b) (stepX b x c))) = false) (h1 : ¬ findL (GL b.length (lenB b) (stepX b x c)) ((rowG (autR b) x L c).1.map (GL b.length (lenB b))) 0 < 0) :
  (rowG (autR b) x L (c + 1)).1 = (rowG (autR b) x L c).1 ∧ atR b x L c = findL (GL b.length (lenB b) (stepX b x c)) ((rowG (autR b) x L c).1.map (GL b.length (lenB b))) 0 := by
 obtain ⟨i, h2, h3⟩ := idx_of_find h1
 have h' : ¬ (autR b).none ((autR b).step x c) = true := by
  intro h2
  have h2 : decide (noneP (GL b.length (lenB b) (stepX b x c))) = true := h2
  rw [h] at h2; cases h2
 rw [rowG_i h' h2, h3]
 unfold atR
 rw [h2]
 exact ⟨rfl, rfl⟩
theorem rowR_a {x : Nat → Nat → Bool} {L : List (Nat → Nat → Bool)} {c : Nat} (h : decide (noneP (GL b.length (lenB b) (stepX b x c))) = false) (h1 : findL (GL b.length (lenB b) (stepX b x c)) ((rowG (autR b) x L c).1.map (GL b.length (lenB b))) 0 < 0) :
  (rowG (autR b) x L (c + 1)).1 = (rowG (autR b) x L c).1 ++ [stepX b x c] ∧ atR b x L c = ((rowG (autR b) x L c).1.length : Int) := by
 have h2 := idx_no_find h1
 have h' : ¬ (autR b).none ((autR b).step x c) = true := by
  intro h2
  have h2 : decide (noneP (GL b.length (lenB b) (stepX b x c))) = true := h2
  rw [h] at h2; cases h2
 rw [rowG_a h' h2]
 unfold atR
 rw [h2]
 exact ⟨rfl, rfl⟩
theorem stX_set {k : Nat} : upd (stX k) k (upd (stX k k) 0 true) = stX (k + 1) := by
 refine upd_row (fun j hj => ?_) ?_
 ·unfold stX
  by_cases h : j < k
  ·rw [if_pos h, if_pos (by omega)]
  ·rw [if_neg h, if_neg (by omega)]
 ·unfold stX
  rw [if_neg (Nat.lt_irrefl k), if_pos (Nat.lt_succ_self k)]
theorem stX_0 : stX 0 = fun _ _ => false := by
 funext j
 unfold stX
 rw [if_neg (by omega)]
end
theorem brR_rows {s : List UInt8} : ∀ {n p : Nat} {cur : List Piece} {out y : List (List Piece)}, p ≤ s.length → brR n s p cur out = some y → cur.length ≤ 2 * p → (∀ r ∈ out, r.length ≤ 2 * s.length) → ∀ r ∈ y, r.length ≤ 2 * s.length
 | 0, _, _, _, _, _, h, _, _ => by cases h
 | n + 1, p, cur, out, y, hp, h, hc, ho => by
  have hx : ∀ r ∈ out ++ [cur], r.length ≤ 2 * s.length := fun r hr => by
   simp only [List.mem_append, List.mem_singleton] at hr
   rcases hr with hr | rfl
   ·exact ho r hr
   ·omega
  unfold brR at h
  split at h
  ·rename_i hlt
   split at h
   ·split at h
    ·cases h
    ·exact brR_rows (by omega) h (by simp) hx
   ·split at h
    ·cases h
    ·rename_i hs
     have h1 := setR_le (s := s) (p := p) (by omega) (eq_true_of_ne_false hs)
     have h2 := nxR_le h1.2
     have h3 := addR_len (cur := cur) (x := (setR s p).1) (m := moR s (setR s p).2.1)
     have h4 : addR cur (setR s p).1 (moR s (setR s p).2.1) = cur ∨ nxR s (setR s p).2.1 = (setR s p).2.1 + 1 := by
      unfold addR
      split
      ·right
       rename_i hm
       unfold moR at hm
       split at hm
       ·rename_i hh; unfold nxR; rw [if_pos hh]
       ·omega
      ·exact .inl rfl
     refine brR_rows h2.2 h ?_ ho
     rw [List.length_append]
     rcases h4 with h4 | h4
     ·rw [h4]; simp; omega
     ·simp; omega
  ·split at h
   ·cases h
   ·cases h; exact hx
theorem brOf_rows (s : List UInt8) (k : Nat) : ((brOf (branchesR s)).getD k []).length ≤ 2 * s.length := by
 have hall : ∀ r ∈ brOf (branchesR s), r.length ≤ 2 * s.length := by
  cases h : branchesR s with
  | none => intro r hr; simp [brOf] at hr
  | some y => exact brR_rows (Nat.zero_le _) h (by simp) (by simp)
 by_cases hk : k < (brOf (branchesR s)).length
 ·rw [List.getD_eq_getElem?_getD, List.getElem?_eq_getElem hk, Option.getD_some]
  exact hall _ (List.getElem_mem _)
 ·rw [List.getD_eq_getElem?_getD, List.getElem?_eq_none (by omega)]; simp
theorem relV_nog {F : PHeap} {γ : Gm} {x : PV} {v : Value} (h : RelV F γ (.p x) v) : RelV F noG (.p x) v := by
 cases h with
 | one h1 h2 => cases h2 with | p h2 => exact .one h1 (.p h2)
 | many h1 h2 => cases h2 with | p h2 => exact .many h1 (.p h2)
theorem sle_nil {F : PHeap} {γ : Gm} {a : Act} : SLE F γ [] a := fun _ _ _ h => by cases h
theorem relV_ref {F : PHeap} {γ : Gm} {i : Nat} {p : List Step} {v : Value} (h : RelV F γ (.ref i p) v) : v.oneCell' = true := by
 cases h with
 | many hm => cases hm
 | one _ h => cases h; rfl
end Go.Proofs.Ytjnjmnfacaakfaa
namespace Go.Proofs.Ytjnjmnfacaakfaa
open Go.Eng
theorem refParseB_ok (s : List UInt8) (b : List (List Piece)) (hb0 : s.length < 4611686018427387904) (hbb : brOf (branchesR s) = b) : Pure Try.prog 12 [.s s] (.tup [.p (eLang ((refLang s).1)), vint .i64 ((refLang s).2)]) := by
 have hbl := brOf_len s
 have hbr := brOf_rows s
 refine pure_of (fn := Try.f12) Try.func12 rfl rfl fun F_ W0_ => ?_
 refine tr_seq (q_t [0, 2] [vstr s, .ref 0 []] [.box (.p (.agg [.v (.slice none 0 0), .v (.slice none 0 0)]))] (tr_then (tr_seq (tr_seq (q_m [0, 2, 19] [vstr s, .ref 0 [], vbool (decide (64 < (s.length : Int)))] (tr_then (q_e (64 < (s.length : Int)) (fun hc1 => ?_) (fun hc1 => ?_))))))))
 ·refine tr_seq (q_m [2, 3] [.ref 0 [], vint .i64 2] (tr_then (tr_pre (E' := [(2, none, .ref 0 []), (3, none, vint .i64 2)]) (H' := [.box (.p (.agg [.v (.slice none 0 0), .v (.slice none 0 0)]))]) (fun _ _ h => q_w [0] [2, 3] h) (tr_pre (fun _ _ => sl_obj_imp (d := .p (.agg [.v (.slice none 0 0), .v (.slice none 0 0)])) 0 (.p (eLang ((refLang s).1))) (by kernel_rfl) ?_) ?_))))
  ·refine err_lang ?_
   first | (rw [refLang_1 (by omega)]; done) | (rw [refLang_2 (by omega) hc2]; done) | (obtain rfl : c = 37 := (by omega); rw [refLang_3 (by omega) hc2 (by rw [hbb, ← hi1_0]; exact bfsG_many X0 (by omega) (by omega) (by omega))]; done) | (rw [refLang_4 (by omega) hc2 (by rw [hbb, ← hi1_0]; exact bfsG_end (by omega) (by omega))]; done)
  refine q_i (d := vint .i64 2) 3 (vint .i64 ((refLang s).2)) ?_ ?_
  ·refine imp_eq (congrArg (fun x => D.p (eI x)) (a₁ := 2) (a₂ := ((refLang s).2)) ?_)
   first | (rw [refLang_1 (by omega)]; done) | (rw [refLang_2 (by omega) hc2]; done) | (obtain rfl : c = 37 := (by omega); rw [refLang_3 (by omega) hc2 (by rw [hbb, ← hi1_0]; exact bfsG_many X0 (by omega) (by omega) (by omega))]; done) | (rw [refLang_4 (by omega) hc2 (by rw [hbb, ← hi1_0]; exact bfsG_end (by omega) (by omega))]; done)
  exact q_z [.p (eLang ((refLang s).1)), vint .i64 ((refLang s).2)] (fun _ _ h => h)
 ·refine tr_skip (tr_then (tr_seq (q_k [Pure Try.prog 27 [.s s] (.tup [.p ((eL (eL ePiece 38 dPiece) 1 []) (brOf (branchesR s))), vbool ((branchesR s).isSome)]), (brOf (branchesR s)).length = b.length ∧ ∀ j_, j_ < (brOf (branchesR s)).length → (eL ePiece 38 dPiece) ((brOf (branchesR s)).getD j_ []) = (eL ePiece 38 dPiece) (b.getD j_ [])] [2, 4, 5] [.ref 0 [], .p ((eL (eL ePiece 38 dPiece) 1 []) b), vbool ((branchesR s).isSome)] [(3, .p ((eL (eL ePiece 38 dPiece) 1 []) b))] [(1, .tup [.p ((eL (eL ePiece 38 dPiece) 1 []) (brOf (branchesR s))), vbool ((branchesR s).isSome)])] (al (refBranches_ok _ (by omega)) (al (by simp_all; done) (trivial))) (tr_then (tr_seq (tr_seq (q_m [2, 4, 27] [.ref 0 [], .p ((eL (eL ePiece 38 dPiece) 1 []) b), vbool (!((branchesR s).isSome))] (tr_then (q_c (!((branchesR s).isSome)) (((branchesR s).isSome) = false) (fun hc2 => ?_) (fun hc2 => ?_))))))))))
  ·refine tr_seq (q_m [2, 3] [.ref 0 [], vint .i64 5] (tr_then (tr_pre (E' := [(2, none, .ref 0 []), (3, none, vint .i64 5)]) (H' := [.box (.p (.agg [.v (.slice none 0 0), .v (.slice none 0 0)]))]) (fun _ _ h => q_w [0] [2, 3] h) (tr_pre (fun _ _ => sl_obj_imp (d := .p (.agg [.v (.slice none 0 0), .v (.slice none 0 0)])) 0 (.p (eLang ((refLang s).1))) (by kernel_rfl) ?_) ?_))))
   ·refine err_lang ?_
    first | (rw [refLang_1 (by omega)]; done) | (rw [refLang_2 (by omega) hc2]; done) | (obtain rfl : c = 37 := (by omega); rw [refLang_3 (by omega) hc2 (by rw [hbb, ← hi1_0]; exact bfsG_many X0 (by omega) (by omega) (by omega))]; done) | (rw [refLang_4 (by omega) hc2 (by rw [hbb, ← hi1_0]; exact bfsG_end (by omega) (by omega))]; done)
   refine q_i (d := vint .i64 5) 3 (vint .i64 ((refLang s).2)) ?_ ?_
   ·refine imp_eq (congrArg (fun x => D.p (eI x)) (a₁ := 5) (a₂ := ((refLang s).2)) ?_)
    first | (rw [refLang_1 (by omega)]; done) | (rw [refLang_2 (by omega) hc2]; done) | (obtain rfl : c = 37 := (by omega); rw [refLang_3 (by omega) hc2 (by rw [hbb, ← hi1_0]; exact bfsG_many X0 (by omega) (by omega) (by omega))]; done) | (rw [refLang_4 (by omega) hc2 (by rw [hbb, ← hi1_0]; exact bfsG_end (by omega) (by omega))]; done)
   exact q_z [.p (eLang ((refLang s).1)), vint .i64 ((refLang s).2)] (fun _ _ h => h)
  ·refine tr_skip (tr_then (tr_seq ?_))
   have hbn : b.length < 1000 := by rw [← hbb]; omega
   have hbm : ∀ k, (b.getD k []).length < 1000 := fun k => by rw [← hbb]; have := hbr k; omega
   refine tr_open fun a0_ w0 F γ_ hH_ hE_ hN0_ hD0_ => ?_
   obtain ⟨v2_, k1_, k2_⟩ := (hE_ 2 none (.ref 0 []) (by kernel_rfl)).1 trivial
   obtain ⟨v4_, k3_, k4_⟩ := (hE_ 4 none (.p ((eL (eL ePiece 38 dPiece) 1 []) b)) (by kernel_rfl)).1 trivial
   refine (show TrQ Try.prog Try.f12.ntmps F _ [(2, none, .p (.v v2_)), (4, none, .p ((eL (eL ePiece 38 dPiece) 1 []) b))] (fun w_ => w_ = w0) _ from ?_) a0_ w0 ⟨sle_cons k1_ (.one rfl (.p (.v (relV_ref k2_)))) (sle_cons k3_ (relV_nog k4_) (fun _ _ _ h => by cases h)), hN0_, hD0_, hH_.sub, rfl⟩
   refine tq_callF (vc1 := []) (E1 := [(2, none, .p (.v v2_)), (4, none, .p ((eL (eL ePiece 38 dPiece) 1 []) b)), (29, none, .p ((eL (eL ePiece 38 dPiece) 1 []) b))]) (f := 36) (t := 30) 1 [] [2, 4, 29] (by kernel_rfl) trivial (by rfl) (by rfl) (by rfl) (by rfl) (by kernel_rfl) (fun v_ w_ => ∃ g rb, NewGrid F w0 w_ v_ 29 4 b.length g rb (lenB b) (fun _ _ => .bool false)) ?_ ?_
   ·intro a_ w_ hS_
    obtain rfl : w_ = w0 := hS_.g
    obtain ⟨vb_, e1_, e2_⟩ := qs_slot (t := 29) (by kernel_rfl) hS_
    have h_ := refEmpty_ok b F w_ vb_ hS_.s e2_ hbn hbm
    rw [← eval_tmp e1_] at h_
    rw [show (#[Operand.tmp 29].map a_.eval) = #[a_.eval (.tmp 29)] from by simp]
    refine h_.mono ?_
    rintro e_ w2_ ⟨v_, g_, rb_, rfl, hN_⟩
    exact ⟨v_, rfl, g_, rb_, hN_⟩
   rintro a1_ v1_ w1 hE1_ hN1_ hD1_ ⟨g, rb, hNG⟩
   refine suffix_q (F2 := addO F v1_ w1) (E' := [(2, none, .p (.v v2_)), (4, none, .p ((eL (eL ePiece 38 dPiece) 1 []) b)), (6, none, .p (.lst 1 b.length (fun q_ => .v (g q_))))]) (G2 := fun w_ => CG (addO F v1_ w1) b g rb w1 (stX 0) w_) (d := .p (.lst 1 b.length (fun q_ => .v (g q_)))) (vc := []) [] [2, 4, 6] (by kernel_rfl) trivial (by kernel_rfl) hE1_ hN1_ hD1_ hNG.ge hNG.sub' (.one rfl (.p hNG.rest)) ⟨hNG.sub', by rw [stX_0]; exact hNG.rows', WroteAll.refl _ _ _⟩ ?_
   have hF2 : ∀ b_, b_ < w0.heap.size → addO F v1_ w1 b_ = F b_ := fun b_ hb_ => by unfold addO; rw [if_neg]; intro h_; have := (hNG.apart b_ h_).1; omega
   have hgrew := hNG.grew
   have hnew := hNG.new
   have hge_ := hNG.ge
   generalize addO F v1_ w1 = F2 at hF2 hge_ ⊢
   refine tq_then (tq_seq (tq_seq (tq_reg (vc := []) (E' := [(2, none, .p (.v v2_)), (4, none, .p ((eL (eL ePiece 38 dPiece) 1 []) b)), (6, none, .p (.lst 1 b.length (fun q_ => .v (g q_)))), (7, none, vint .i64 0)]) [] [2, 4, 6, 7] (by kernel_rfl) trivial (tq_then (tq_block (tq_loop (α := Nat) (fun z : Nat => (fun (k : Nat) => [(2, none, .p (.v v2_)), (4, none, .p ((eL (eL ePiece 38 dPiece) 1 []) b)), (6, none, .p (.lst 1 b.length (fun q_ => .v (g q_)))), (7, none, vint .i64 (k : Int))]) z) (fun z : Nat => (fun (k : Nat) => (fun w_ => CG F2 b g rb w1 (stX k) w_)) z) (fun z : Nat => (fun (k : Nat) => (k ≤ b.length)) z) (fun z : Nat => (fun (k : Nat) => b.length - k) z) 0 ?_ ?_ ?_))))))
   ·show (0 ≤ b.length)
    ·omega
   ·intro A_ W_ hS
    replace hS := qs_set (d := vint .i64 0) 7 (vint .i64 ((0 : Nat) : Int)) (by kernel_rfl) (eqD_int (by omega)) hS
    exact qs_g (by exact fun _ h => h) (qs_proj (ts := [2, 4, 6, 7]) (by kernel_rfl) hS)
   ·intro z hz
    revert z; intro k hz
    have hz : (k ≤ b.length) := hz
    have hi0_0 := hz
    have hlb : lenB b k = (b.getD k []).length + 1 := rfl
    refine tq_seq (tq_seq (tq_reg (vc := []) (E' := [(2, none, .p (.v v2_)), (4, none, .p ((eL (eL ePiece 38 dPiece) 1 []) b)), (6, none, .p (.lst 1 b.length (fun q_ => .v (g q_)))), (7, none, vint .i64 (k : Int)), (34, none, vbool (decide ((k : Int) < (b.length : Int))))]) [] [2, 4, 6, 7, 34] (by kernel_rfl) trivial (tq_then (tq_condP (decide ((k : Int) < (b.length : Int))) ((k : Int) < (b.length : Int)) (by simp) (by kernel_rfl) (fun hc3 => ?_) (fun hc3 => ?_)))))
    ·refine tq_skip (tq_then (tq_seq (tq_block (tqg_store (n := b.length) (e := 4) (rb := rb) (len := lenB b) (G' := (fun w_ => CG F2 b g rb w1 (stX (k + 1)) w_)) (g := g) (f := (fun k_ i_ => .bool (stX k k_ i_))) (f' := (fun i_ => .bool (upd (stX k k) (0) true i_))) (vc1 := [(0 : Int) ≤ (k : Int), (k : Int) < (b.length : Int)]) (vc2 := [(0 : Int) ≤ 0, 0 < (lenB b k : Int), 0 < lenB b k]) (E1 := [(40, none, .p (.v (g k)))]) (f2 := upd (fun x_ => .p (.v ((fun i_ => .bool (stX k k i_)) x_))) 0 (.p (.v (.bool true)))) (E3 := [(2, none, .p (.v v2_)), (4, none, .p ((eL (eL ePiece 38 dPiece) 1 []) b)), (6, none, .p (.lst 1 b.length (fun q_ => .v (g q_)))), (7, none, vint .i64 (k : Int))]) 4 40 k [] [] [40] [2, 4, 6, 7] (by kernel_rfl) (al (by omega) (al (by omega) (trivial))) (by kernel_rfl) (by omega) (by kernel_rfl) (al (by omega) (al (by omega) (al (by omega) (trivial)))) ?_ (by kernel_rfl) (by kernel_rfl) (fun w_ hg => hg.2.1) (fun w_ w2_ hg hw hs_ hr => ⟨hs_, by have := BRows.set hr; rw [stX_set] at this; exact this, hg.2.2.next (by omega) hw⟩) ?_))))
     ·intro i_ _; unfold upd; by_cases h_ : i_ = 0 <;> simp [h_]
     refine qin_n ?_
     refine tq_then (tq_reg (vc := [(IntKind.wrap .i64 ((k : Int) + 1)) = (((k + 1) : Nat) : Int)]) (E' := [(2, none, .p (.v v2_)), (4, none, .p ((eL (eL ePiece 38 dPiece) 1 []) b)), (6, none, .p (.lst 1 b.length (fun q_ => .v (g q_)))), (7, none, vint .i64 (((k + 1) : Nat) : Int))]) [(1, vint .i64 (((k + 1) : Nat) : Int))] [2, 4, 6, 7] (by kernel_rfl) (al (wr64 (by omega) (by omega) (by omega)) (trivial)) (qlp_end (k + 1) ?_ ?_ ?_))
     ·show ((k + 1) ≤ b.length)
      ·omega
     ·show b.length - (k + 1) < b.length - k
      omega
     ·intro A_ W_ hS
      exact qs_g (by exact fun _ h => h) (qs_proj (ts := [2, 4, 6, 7]) (by kernel_rfl) hS)
    ·refine tq_exit (tqh_e ?_)
     refine tqh_e ?_
     refine qin_hit ?_
     refine tq_then (tq_seq (tq_callF (vc1 := []) (E1 := [(2, none, .p (.v v2_)), (4, none, .p ((eL (eL ePiece 38 dPiece) 1 []) b)), (42, none, .p ((eL (eL ePiece 38 dPiece) 1 []) b)), (43, none, .p (.lst 1 b.length (fun q_ => .v (g q_))))]) (f := 37) (t := 44) 2 [] [2, 4, 42, 43] (by kernel_rfl) trivial (by rfl) (by rfl) (by rfl) (by rfl) (by kernel_rfl) (fun v_ w_ => RelP F2 (.lst 1 b.length (fun k => .v (g k))) [v_] ∧ CG F2 b g rb w1 (closedX b (stX k)) w_) ?_ ?_))
     ·intro a_ w_ hS_
      obtain ⟨vb_, e1_, e2_⟩ := qs_slot (t := 42) (by kernel_rfl) hS_
      obtain ⟨xv_, e3_, e4_⟩ := qs_slot (t := 43) (by kernel_rfl) hS_
      have h_ := refClosed_ok b (stX k) F2 w_ vb_ xv_ g rb hS_.s e2_ (relV_p e4_ rfl) hS_.g.2.1 hbn hbm
      rw [← eval_tmp e1_, ← eval_tmp e3_] at h_
      rw [show (#[Operand.tmp 42, Operand.tmp 43].map a_.eval) = #[a_.eval (.tmp 42), a_.eval (.tmp 43)] from by simp]
      refine h_.mono ?_
      rintro e_ w2_ ⟨v_, rfl, hp_, hC_⟩
      exact ⟨v_, rfl, hp_, hC_.1, hC_.2.1, wroteAll_trans hS_.g.2.2 hC_.2.2⟩
     rintro a1_ v1_ w2 hE1_ hN1_ hD1_ ⟨hp_, hC_⟩
     rw [show stX k = stX b.length by rw [show k = b.length by omega]] at hC_
     have hC_ : CG F2 b g rb w1 (startX b) w2 := hC_
     have hSL_ : SL ⟨Try.prog, W0_, F_, [], Try.f12.ntmps⟩ [(2, none, .ref 0 []), (4, none, .p ((eL (eL ePiece 38 dPiece) 1 []) b)), (44, none, .p ((eL (eL eB 1 false) 1 []) (GL b.length (lenB b) (startX b))))] [.box (.p (.agg [.v (.slice none 0 0), .v (.slice none 0 0)]))] (a1_.put (some 44) v1_) w2 := by
      have hag_ : ∀ b_ c_, F2 b_ = some c_ → addW F2 b.length rb w2 b_ = some c_ := fun _ _ => addW_ge hC_.2.1
      refine ⟨⟨addW F2 b.length rb w2, γ_, hH_.grew (hC_.2.2.grew hgrew hnew) (fun b_ hb_ => ?_) (addW_sub hC_.1), ?_⟩, by rw [put_size]; exact hN1_, put_defers.trans hD1_⟩
      ·rw [addW_old (fun q_ hq_ => by have := hnew q_ hq_; omega)]; exact hF2 b_ hb_
      obtain ⟨u2_, x1_, x2_⟩ := (hE1_ 2 none (.p (.v v2_)) (by kernel_rfl)).1 trivial
      obtain ⟨u4_, x3_, x4_⟩ := (hE1_ 4 none (.p ((eL (eL ePiece 38 dPiece) 1 []) b)) (by kernel_rfl)).1 trivial
      rw [v_val x2_] at x1_
      refine Eng.sle_cons (γ := γ_) ((put_other (dst := some 44) (t := 2) (by simp)).trans x1_) (k2_.mono (fun b_ c_ h_ => hag_ b_ c_ (hge_ b_ c_ h_)) fun _ _ h => h) (Eng.sle_cons (γ := γ_) ((put_other (dst := some 44) (t := 4) (by simp)).trans x3_) (x4_.mono hag_ fun _ _ h => by simp [noG] at h) (Eng.sle_cons (γ := γ_) (put_get hN1_ (by kernel_rfl) rfl) (.one rfl (.p (brows_rest hC_.2.1 hp_))) sle_nil))
     refine seg (vc := []) (E' := [(2, none, .ref 0 []), (4, none, .p ((eL (eL ePiece 38 dPiece) 1 []) b)), (8, none, .own 1)]) (H' := [.box (.p (.agg [.v (.slice none 0 0), .v (.slice none 0 0)])), .arr 77 1 1 (fun j => ([.p ((eL (eL eB 1 false) 1 []) (GL b.length (lenB b) (startX b)))] : List D).getD j default)]) 2 [] [2, 4, 8] 3 (by kernel_rfl) trivial hSL_ (fun a3_ w3_ h3_ => seg_end ?_)
     revert a3_ w3_
     refine nm_pre (E' := [(2, none, .ref 0 []), (4, none, .p ((eL (eL ePiece 38 dPiece) 1 []) b)), (8, none, .own 1)]) (H' := [.box (.p (.agg [.v (.slice none 0 0), .v (.slice none 0 0)])), oL 77 (eL (eL eB 1 false) 1 []) 1 [] ([startX b].map (GL b.length (lenB b)))]) (fun _ _ => sl_arr (n := 1) (n' := 1) (f := fun j => ([.p ((eL (eL eB 1 false) 1 []) (GL b.length (lenB b) (startX b)))] : List D).getD j default) 1 (fun i => .p ((eL (eL eB 1 false) 1 []) (([startX b].map (GL b.length (lenB b))).getD i []))) (by kernel_rfl) rfl (by intro j_ hj_; obtain rfl : j_ = 0 := (by omega); rfl)) (tr_then (tr_seq (q_t [2, 4, 8, 9] [.ref 0 [], .p ((eL (eL ePiece 38 dPiece) 1 []) b), .own 1, .ref 2 []] [.box (.p (.agg [.v (.slice none 0 0), .v (.slice none 0 0)])), oL 77 (eL (eL eB 1 false) 1 []) 1 [] ([startX b].map (GL b.length (lenB b))), .box (.p (.agg [.v (.slice none 0 0), .v (.slice none 0 0)]))] (tr_then (tr_seq (tr_seq (q_m [2, 4, 8, 9, 10] [.ref 0 [], .p ((eL (eL ePiece 38 dPiece) 1 []) b), .own 1, .ref 2 [], vint .i64 0] (tr_then (tr_block (tr_loop (α := Nat × (List (Nat → Nat → Bool)) × (List Bool) × (List (List Int))) (fun z : Nat × (List (Nat → Nat → Bool)) × (List Bool) × (List (List Int)) => (fun (k : Nat) (L : List (Nat → Nat → Bool)) (A : List Bool) (Nx : List (List Int)) => [(2, none, .ref 0 []), (4, none, .p ((eL (eL ePiece 38 dPiece) 1 []) b)), (8, none, .own 1), (9, none, .ref 2 []), (10, none, vint .i64 (k : Int))]) z.1 z.2.1 z.2.2.1 z.2.2.2) (fun z : Nat × (List (Nat → Nat → Bool)) × (List Bool) × (List (List Int)) => (fun (k : Nat) (L : List (Nat → Nat → Bool)) (A : List Bool) (Nx : List (List Int)) => [.box (.p (.agg [.v (.slice none 0 0), .v (.slice none 0 0)])), oL 77 (eL (eL eB 1 false) 1 []) 1 [] (L.map (GL b.length (lenB b))), .box (.agg [.own 3, .own 4]), oL 4 eB 1 false A, oL 22 (eL eI 1 0) 1 [] Nx]) z.1 z.2.1 z.2.2.1 z.2.2.2) (fun z : Nat × (List (Nat → Nat → Bool)) × (List Bool) × (List (List Int)) => (fun (k : Nat) (L : List (Nat → Nat → Bool)) (A : List Bool) (Nx : List (List Int)) => (bfsG (autR b) (17 - k) L k A Nx = bfsG (autR b) 17 [startX b] 0 [] []) ∧ (k ≤ L.length) ∧ (L.length ≤ 16) ∧ (A.length = k) ∧ (Nx.length = k)) z.1 z.2.1 z.2.2.1 z.2.2.2) (fun z : Nat × (List (Nat → Nat → Bool)) × (List Bool) × (List (List Int)) => (fun (k : Nat) (L : List (Nat → Nat → Bool)) (A : List Bool) (Nx : List (List Int)) => 17 - k) z.1 z.2.1 z.2.2.1 z.2.2.2) (0, [startX b], ([] : List Bool), ([] : List (List Int))) ?_ ?_ ?_))))))))))
     ·show (bfsG (autR b) (17 - 0) ([startX b]) 0 ([] : List Bool) ([] : List (List Int)) = bfsG (autR b) 17 [startX b] 0 [] []) ∧ (0 ≤ ([startX b]).length) ∧ (([startX b]).length ≤ 16) ∧ (([] : List Bool).length = 0) ∧ (([] : List (List Int)).length = 0)
      refine ⟨?_, ?_, ?_, ?_, ?_⟩
      ·(simp; done)
      ·omega
      ·(simp; done)
      ·(simp; done)
      ·(simp; done)
     ·intro A_ W_ hS
      replace hS := q_a (d := vint .i64 0) 10 (vint .i64 ((0 : Nat) : Int)) (eqD_int (by omega)) hS
      replace hS := sl_nil_box (d := .p (.agg [.v (.slice none 0 0), .v (.slice none 0 0)])) (l := [.p (.v (.slice none 0 0)), .p (.v (.slice none 0 0))]) 2 0 4 1 (fun i => .p (eB (([] : List Bool).getD i false))) (by kernel_rfl) (by kernel_rfl) (by kernel_rfl) hS
      replace hS := sl_nil_box (d := .agg [.own 3, .p (.v (.slice none 0 0))]) (l := [.own 3, .p (.v (.slice none 0 0))]) 2 1 22 1 (fun i => .p ((eL eI 1 0) (([] : List (List Int)).getD i []))) (by kernel_rfl) (by kernel_rfl) (by kernel_rfl) hS
      replace hS := sl_arr (e := 77) (sz := 1) (n := ([startX b].map (GL b.length (lenB b))).length) (n' := (([startX b]).map (GL b.length (lenB b))).length) (f := (fun i => .p ((eL (eL eB 1 false) 1 []) (([startX b].map (GL b.length (lenB b))).getD i [])))) 1 (fun i => .p ((eL (eL eB 1 false) 1 []) ((([startX b]).map (GL b.length (lenB b))).getD i []))) (by kernel_rfl) (by first | omega | (intro hg; simp at hg; omega) | (simp; done) | (simp_all; done) | (simp_all; omega) | grind) (by first | omega | (intro hg; simp at hg; omega) | (simp; done) | (simp_all; done) | (simp_all; omega) | grind) hS
      exact q_v [∀ i, i < (([startX b]).map (GL b.length (lenB b))).length → D.p ((eL (eL eB 1 false) 1 []) ((([startX b]).map (GL b.length (lenB b))).getD i [])) = .p ((eL (eL eB 1 false) 1 []) ((([startX b]).map (GL b.length (lenB b))).getD i [])), ∀ i, i < ([] : List Bool).length → D.p (eB (([] : List Bool).getD i false)) = .p (eB (([] : List Bool).getD i false)), ∀ i, i < ([] : List (List Int)).length → D.p ((eL eI 1 0) (([] : List (List Int)).getD i [])) = .p ((eL eI 1 0) (([] : List (List Int)).getD i []))] [0, 1, 2, 3, 4] [2, 4, 8, 9, 10] (al (fun _ _ => rfl) (al (fun _ _ => rfl) (al (fun _ _ => rfl) trivial))) hS
     ·intro z hz
      obtain ⟨k, L, A, Nx⟩ := z
      have hz : (bfsG (autR b) (17 - k) L k A Nx = bfsG (autR b) 17 [startX b] 0 [] []) ∧ (k ≤ L.length) ∧ (L.length ≤ 16) ∧ (A.length = k) ∧ (Nx.length = k) := hz
      obtain ⟨hi1_0, hi1_1, hi1_2, hi1_3, hi1_4⟩ := hz
      have hlm : (L.map (GL b.length (lenB b))).length = L.length := List.length_map ..
      have hgk := fun h : k < L.length => getD_GLM (b := b) (L := L) (k := k) h
      have hr := fun h : k < L.length => rowG_get (A := autR b) (x := L.getD k X0) X0 h 37
      have hlm2 : ((rowG (autR b) (L.getD k X0) L 37).1.map (GL b.length (lenB b))).length = (rowG (autR b) (L.getD k X0) L 37).1.length := List.length_map ..
      refine tr_seq (tr_seq (q_t [2, 4, 8, 9, 10, 49] [.ref 0 [], .p ((eL (eL ePiece 38 dPiece) 1 []) b), .own 1, .ref 2 [], vint .i64 (k : Int), vbool (decide ((k : Int) < (((L.map (GL b.length (lenB b))).length : Nat) : Int)))] [.box (.p (.agg [.v (.slice none 0 0), .v (.slice none 0 0)])), oL 77 (eL (eL eB 1 false) 1 []) 1 [] (L.map (GL b.length (lenB b))), .box (.agg [.own 3, .own 4]), oL 4 eB 1 false A, oL 22 (eL eI 1 0) 1 [] Nx] (tr_then (q_e ((k : Int) < (((L.map (GL b.length (lenB b))).length : Nat) : Int)) (fun hc4 => ?_) (fun hc4 => ?_)))))
      ·refine tr_skip (tr_then (tr_seq (tr_block (tr_seq (q_m [2, 4, 8, 9, 10, 11] [.ref 0 [], .p ((eL (eL ePiece 38 dPiece) 1 []) b), .own 1, .ref 2 [], vint .i64 (k : Int), vbool false] (tr_then (tr_seq (tr_seq (q_m [2, 4, 8, 9, 10, 11, 12] [.ref 0 [], .p ((eL (eL ePiece 38 dPiece) 1 []) b), .own 1, .ref 2 [], vint .i64 (k : Int), vbool false, vint .i64 0] (tr_then (tr_block (tr_loop (α := Nat) (fun z : Nat => (fun (q : Nat) => [(2, none, .ref 0 []), (4, none, .p ((eL (eL ePiece 38 dPiece) 1 []) b)), (8, none, .own 1), (9, none, .ref 2 []), (10, none, vint .i64 (k : Int)), (11, none, vbool (accX b (L.getD k X0) q)), (12, none, vint .i64 (q : Int))]) z) (fun z : Nat => (fun (q : Nat) => [.box (.p (.agg [.v (.slice none 0 0), .v (.slice none 0 0)])), oL 77 (eL (eL eB 1 false) 1 []) 1 [] (L.map (GL b.length (lenB b))), .box (.agg [.own 3, .own 4]), oL 4 eB 1 false A, oL 22 (eL eI 1 0) 1 [] Nx]) z) (fun z : Nat => (fun (q : Nat) => (q ≤ b.length)) z) (fun z : Nat => (fun (q : Nat) => b.length - q) z) 0 ?_ ?_ ?_))))))))))))
       ·show (0 ≤ b.length)
        ·omega
       ·intro A_ W_ hS
        replace hS := q_a (d := vbool false) 11 (vbool (accX b (L.getD k X0) 0)) (eqD_bool (by rfl)) hS
        replace hS := q_a (d := vint .i64 0) 12 (vint .i64 ((0 : Nat) : Int)) (eqD_int (by omega)) hS
        exact q_v [∀ i, i < (L.map (GL b.length (lenB b))).length → D.p ((eL (eL eB 1 false) 1 []) ((L.map (GL b.length (lenB b))).getD i [])) = .p ((eL (eL eB 1 false) 1 []) ((L.map (GL b.length (lenB b))).getD i [])), ∀ i, i < A.length → D.p (eB (A.getD i false)) = .p (eB (A.getD i false)), ∀ i, i < Nx.length → D.p ((eL eI 1 0) (Nx.getD i [])) = .p ((eL eI 1 0) (Nx.getD i []))] [0, 1, 2, 3, 4] [2, 4, 8, 9, 10, 11, 12] (al (fun _ _ => rfl) (al (fun _ _ => rfl) (al (fun _ _ => rfl) trivial))) hS
       ·intro z hz
        revert z; intro q hz
        have hz : (q ≤ b.length) := hz
        have hi2_0 := hz
        refine tr_seq (tr_seq (q_t [2, 4, 8, 9, 10, 11, 12, 55] [.ref 0 [], .p ((eL (eL ePiece 38 dPiece) 1 []) b), .own 1, .ref 2 [], vint .i64 (k : Int), vbool (accX b (L.getD k X0) q), vint .i64 (q : Int), vbool (decide ((q : Int) < (b.length : Int)))] [.box (.p (.agg [.v (.slice none 0 0), .v (.slice none 0 0)])), oL 77 (eL (eL eB 1 false) 1 []) 1 [] (L.map (GL b.length (lenB b))), .box (.agg [.own 3, .own 4]), oL 4 eB 1 false A, oL 22 (eL eI 1 0) 1 [] Nx] (tr_then (q_e ((q : Int) < (b.length : Int)) (fun hc5 => ?_) (fun hc5 => ?_)))))
        ·refine tr_skip (tr_then (tr_seq (tr_block (q_d [(!(accX b (L.getD k X0) q)) = true → (!(accX b (L.getD k X0) q)) = true, (!(accX b (L.getD k X0) q)) = true → (!(accX b (L.getD k X0) q)) = true, (!(accX b (L.getD k X0) q)) = true → ((0 : Int) ≤ (k : Int)), (!(accX b (L.getD k X0) q)) = true → ((k : Int) < ((L.map (GL b.length (lenB b))).length : Int)), (!(accX b (L.getD k X0) q)) = true → (!(accX b (L.getD k X0) q)) = true, (!(accX b (L.getD k X0) q)) = true → (k < (L.map (GL b.length (lenB b))).length), (!(accX b (L.getD k X0) q)) = true → (!(accX b (L.getD k X0) q)) = true, (!(accX b (L.getD k X0) q)) = true → (!(accX b (L.getD k X0) q)) = true, (!(accX b (L.getD k X0) q)) = true → ((0 : Int) ≤ (q : Int)), (!(accX b (L.getD k X0) q)) = true → ((q : Int) < (((L.map (GL b.length (lenB b))).getD k []).length : Int)), (!(accX b (L.getD k X0) q)) = true → (!(accX b (L.getD k X0) q)) = true, (!(accX b (L.getD k X0) q)) = true → (!(accX b (L.getD k X0) q)) = true, (!(accX b (L.getD k X0) q)) = true → (!(accX b (L.getD k X0) q)) = true, (!(accX b (L.getD k X0) q)) = true → ((0 : Int) ≤ (q : Int)), (!(accX b (L.getD k X0) q)) = true → ((q : Int) < (b.length : Int)), (!(accX b (L.getD k X0) q)) = true → (!(accX b (L.getD k X0) q)) = true, (!(accX b (L.getD k X0) q)) = true → (!(accX b (L.getD k X0) q)) = true, (!(accX b (L.getD k X0) q)) = true → (!(accX b (L.getD k X0) q)) = true, (!(accX b (L.getD k X0) q)) = true → (!(accX b (L.getD k X0) q)) = true, (!(accX b (L.getD k X0) q)) = true → ((0 : Int) ≤ (((b.getD q []).length : Nat) : Int)), (!(accX b (L.getD k X0) q)) = true → ((((b.getD q []).length : Nat) : Int) < ((((L.map (GL b.length (lenB b))).getD k []).getD q []).length : Int)), (!(accX b (L.getD k X0) q)) = true → (!(accX b (L.getD k X0) q)) = true, (!(accX b (L.getD k X0) q)) = true → (((((L.map (GL b.length (lenB b))).getD k []).getD q []).getD ((b.getD q []).length) false) = ((L.getD k X0) q (b.getD q []).length)), (!(accX b (L.getD k X0) q)) = true → (!(accX b (L.getD k X0) q)) = true] [2, 4, 8, 9, 10, 11, 12] [.ref 0 [], .p ((eL (eL ePiece 38 dPiece) 1 []) b), .own 1, .ref 2 [], vint .i64 (k : Int), vbool ((accX b (L.getD k X0) q) || ((L.getD k X0) q (b.getD q []).length)), vint .i64 (q : Int)] [(15, vbool ((L.getD k X0) q (b.getD q []).length))] [] (al id (al id (al (by omega) (al (by omega) (al id (al (by omega) (al id (al id (al (by omega) (al (by intro _; rw [hgk (by omega), GL_len]; omega) (al id (al id (al id (al (by omega) (al (by omega) (al id (al id (al id (al id (al (by omega) (al (by intro _; rw [hgk (by omega), GL_rlen (by omega)]; unfold lenB; omega) (al id (al (by intro _; rw [hgk (by omega)]; exact GL_get (by omega) (by unfold lenB; omega)) (al id (trivial))))))))))))))))))))))))) (in_n (tr_then (q_k [(IntKind.wrap .i64 ((q : Int) + 1)) = (((q + 1) : Nat) : Int)] [2, 4, 8, 9, 10, 11, 12] [.ref 0 [], .p ((eL (eL ePiece 38 dPiece) 1 []) b), .own 1, .ref 2 [], vint .i64 (k : Int), vbool ((accX b (L.getD k X0) q) || ((L.getD k X0) q (b.getD q []).length)), vint .i64 (((q + 1) : Nat) : Int)] [(1, vint .i64 (((q + 1) : Nat) : Int))] [] (al (wr64 (by omega) (by omega) (by omega)) (trivial)) (lp_end (q + 1) ?_ ?_ ?_))))))))
         ·show ((q + 1) ≤ b.length)
          ·omega
         ·show b.length - (q + 1) < b.length - q
          omega
         ·intro A_ W_ hS
          replace hS := q_a (d := vbool ((accX b (L.getD k X0) q) || ((L.getD k X0) q (b.getD q []).length))) 11 (vbool (accX b (L.getD k X0) (q + 1))) (eqD_bool (by rfl)) hS
          exact q_v [∀ i, i < (L.map (GL b.length (lenB b))).length → D.p ((eL (eL eB 1 false) 1 []) ((L.map (GL b.length (lenB b))).getD i [])) = .p ((eL (eL eB 1 false) 1 []) ((L.map (GL b.length (lenB b))).getD i [])), ∀ i, i < A.length → D.p (eB (A.getD i false)) = .p (eB (A.getD i false)), ∀ i, i < Nx.length → D.p ((eL eI 1 0) (Nx.getD i [])) = .p ((eL eI 1 0) (Nx.getD i []))] [0, 1, 2, 3, 4] [2, 4, 8, 9, 10, 11, 12] (al (fun _ _ => rfl) (al (fun _ _ => rfl) (al (fun _ _ => rfl) trivial))) hS
        ·refine tr_exit (th_e (th_e (in_hit (tr_then (tr_seq (q_r [∀ j, j < 1 → ([.v (.bool (accX b (L.getD k X0) q))] : List PV).getD j default = (fun i => eB (([(accX b (L.getD k X0) q)]).getD i false)) j, (A.length + (([(accX b (L.getD k X0) q)]).length)) * 1 ≤ 140737488355328] [2, 4, 8, 9, 10] [.ref 0 [], .p ((eL (eL ePiece 38 dPiece) 1 []) b), .own 1, .ref 2 [], vint .i64 (k : Int)] [.box (.p (.agg [.v (.slice none 0 0), .v (.slice none 0 0)])), oL 77 (eL (eL eB 1 false) 1 []) 1 [] (L.map (GL b.length (lenB b))), .box (.agg [.own 5, .own 4]), .dead, oL 22 (eL eI 1 0) 1 [] Nx, .arr 4 1 (A.length + ([(accX b (L.getD k X0) q)]).length) (appF (fun i => .p (eB (A.getD i false))) A.length (fun j => .p (eB (([(accX b (L.getD k X0) q)]).getD j false))))] [] [(3, .p ((eL eB 1 false) ([(accX b (L.getD k X0) q)])))] (al (lit_pv (e := eB) (d := false) (l := [(accX b (L.getD k X0) q)])) (al (by simp_all; omega) (trivial))) (nm_pre (E' := [(2, none, .ref 0 []), (4, none, .p ((eL (eL ePiece 38 dPiece) 1 []) b)), (8, none, .own 1), (9, none, .ref 2 []), (10, none, vint .i64 (k : Int))]) (H' := [.box (.p (.agg [.v (.slice none 0 0), .v (.slice none 0 0)])), oL 77 (eL (eL eB 1 false) 1 []) 1 [] (L.map (GL b.length (lenB b))), .box (.agg [.own 5, .own 4]), .dead, oL 22 (eL eI 1 0) 1 [] Nx, oL 4 eB 1 false (A ++ ([(accX b (L.getD k X0) q)]))]) (fun _ _ => sl_arr (n := (A.length + ([(accX b (L.getD k X0) q)]).length)) (n' := (A ++ ([(accX b (L.getD k X0) q)])).length) (f := appF (fun i => .p (eB (A.getD i false))) A.length (fun j => .p (eB (([(accX b (L.getD k X0) q)]).getD j false)))) 5 (fun i => .p (eB ((A ++ ([(accX b (L.getD k X0) q)])).getD i false))) (by kernel_rfl) (by simp) (by first | exact appN | exact nilN | exact app0 | exact nilV _)) (tr_then (tr_seq (q_m [2, 4, 8, 9, 10, 13] [.ref 0 [], .p ((eL (eL ePiece 38 dPiece) 1 []) b), .own 1, .ref 2 [], vint .i64 (k : Int), .p (.v (.slice none 0 0))] (tr_then (tr_seq (tr_seq (q_m [2, 4, 8, 9, 10, 13, 14] [.ref 0 [], .p ((eL (eL ePiece 38 dPiece) 1 []) b), .own 1, .ref 2 [], vint .i64 (k : Int), .p (.v (.slice none 0 0)), vint .i64 0] (tr_then (tr_block (tr_loop (α := Nat) (fun z : Nat => (fun (c : Nat) => [(2, none, .ref 0 []), (4, none, .p ((eL (eL ePiece 38 dPiece) 1 []) b)), (8, none, .own 1), (9, none, .ref 2 []), (10, none, vint .i64 (k : Int)), (13, none, .own 6), (14, none, vint .i64 (c : Int))]) z) (fun z : Nat => (fun (c : Nat) => [.box (.p (.agg [.v (.slice none 0 0), .v (.slice none 0 0)])), oL 77 (eL (eL eB 1 false) 1 []) 1 [] ((rowG (autR b) (L.getD k X0) L c).1.map (GL b.length (lenB b))), .box (.agg [.own 5, .own 4]), .dead, oL 22 (eL eI 1 0) 1 [] Nx, oL 4 eB 1 false (A ++ ([(accX b (L.getD k X0) q)])), oL 3 eI 1 0 ((rowG (autR b) (L.getD k X0) L c).2)]) z) (fun z : Nat => (fun (c : Nat) => (c ≤ 37)) z) (fun z : Nat => (fun (c : Nat) => 37 - c) z) 0 ?_ ?_ ?_)))))))))))))))))
         ·show (0 ≤ 37)
          ·omega
         ·intro A_ W_ hS
          replace hS := sl_nil 13 3 1 (fun i => .p (eI (([] : List Int).getD i 0))) (by kernel_rfl) hS
          replace hS := q_a (d := vint .i64 0) 14 (vint .i64 ((0 : Nat) : Int)) (eqD_int (by omega)) hS
          replace hS := sl_arr (e := 77) (sz := 1) (n := (L.map (GL b.length (lenB b))).length) (n' := ((rowG (autR b) (L.getD k X0) L 0).1.map (GL b.length (lenB b))).length) (f := (fun i => .p ((eL (eL eB 1 false) 1 []) ((L.map (GL b.length (lenB b))).getD i [])))) 1 (fun i => .p ((eL (eL eB 1 false) 1 []) (((rowG (autR b) (L.getD k X0) L 0).1.map (GL b.length (lenB b))).getD i []))) (by kernel_rfl) (by rfl) (by intro j hj; rfl) hS
          replace hS := sl_arr (e := 3) (sz := 1) (n := ([] : List Int).length) (n' := ([] : List Int).length) (f := (fun i => .p (eI (([] : List Int).getD i 0)))) 6 (fun i => .p (eI (([] : List Int).getD i 0))) (by kernel_rfl) (by rfl) (by intro j hj; rfl) hS
          exact q_v [∀ i, i < ((rowG (autR b) (L.getD k X0) L 0).1.map (GL b.length (lenB b))).length → D.p ((eL (eL eB 1 false) 1 []) (((rowG (autR b) (L.getD k X0) L 0).1.map (GL b.length (lenB b))).getD i [])) = .p ((eL (eL eB 1 false) 1 []) (((rowG (autR b) (L.getD k X0) L 0).1.map (GL b.length (lenB b))).getD i [])), ∀ i, i < Nx.length → D.p ((eL eI 1 0) (Nx.getD i [])) = .p ((eL eI 1 0) (Nx.getD i [])), ∀ i, i < (A ++ ([(accX b (L.getD k X0) q)])).length → D.p (eB ((A ++ ([(accX b (L.getD k X0) q)])).getD i false)) = .p (eB ((A ++ ([(accX b (L.getD k X0) q)])).getD i false)), ∀ i, i < ([] : List Int).length → D.p (eI (([] : List Int).getD i 0)) = .p (eI (([] : List Int).getD i 0))] [0, 1, 2, 3, 4, 5, 6] [2, 4, 8, 9, 10, 13, 14] (al (fun _ _ => rfl) (al (fun _ _ => rfl) (al (fun _ _ => rfl) (al (fun _ _ => rfl) trivial)))) hS
         ·intro z hz
          revert z; intro c hz
          have hz : (c ≤ 37) := hz
          have hi3_0 := hz
          have hrc := rowG_get (A := autR b) (x := L.getD k X0) X0 (show k < L.length by omega) c
          have hlc : ((rowG (autR b) (L.getD k X0) L c).1.map (GL b.length (lenB b))).length = (rowG (autR b) (L.getD k X0) L c).1.length := List.length_map ..
          have hl2 := rowG_len2 (A := autR b) (x := L.getD k X0) (L := L) c
          refine tr_seq (tr_seq (q_t [2, 4, 8, 9, 10, 13, 14, 82] [.ref 0 [], .p ((eL (eL ePiece 38 dPiece) 1 []) b), .own 1, .ref 2 [], vint .i64 (k : Int), .own 6, vint .i64 (c : Int), vbool (decide ((c : Int) < 37))] [.box (.p (.agg [.v (.slice none 0 0), .v (.slice none 0 0)])), oL 77 (eL (eL eB 1 false) 1 []) 1 [] ((rowG (autR b) (L.getD k X0) L c).1.map (GL b.length (lenB b))), .box (.agg [.own 5, .own 4]), .dead, oL 22 (eL eI 1 0) 1 [] Nx, oL 4 eB 1 false (A ++ ([(accX b (L.getD k X0) q)])), oL 3 eI 1 0 ((rowG (autR b) (L.getD k X0) L c).2)] (tr_then (q_e ((c : Int) < 37) (fun hc6 => ?_) (fun hc6 => ?_)))))
          ·refine tr_skip (tr_then (tr_seq (tr_block (tr_seq (q_k [(0 : Int) ≤ (k : Int), (k : Int) < (((rowG (autR b) (L.getD k X0) L c).1.map (GL b.length (lenB b))).length : Int), k < ((rowG (autR b) (L.getD k X0) L c).1.map (GL b.length (lenB b))).length, (((rowG (autR b) (L.getD k X0) L c).1.map (GL b.length (lenB b))).getD k []).length = (GL b.length (lenB b) (L.getD k X0)).length ∧ ∀ j_, j_ < (((rowG (autR b) (L.getD k X0) L c).1.map (GL b.length (lenB b))).getD k []).length → (eL eB 1 false) ((((rowG (autR b) (L.getD k X0) L c).1.map (GL b.length (lenB b))).getD k []).getD j_ []) = (eL eB 1 false) ((GL b.length (lenB b) (L.getD k X0)).getD j_ []), Pure Try.prog 38 [(eL (eL ePiece 38 dPiece) 1 []) b, (eL (eL eB 1 false) 1 []) (GL b.length (lenB b) (L.getD k X0)), .v (.int .i64 (c : Int))] (.p ((eL (eL eB 1 false) 1 []) (GL b.length (lenB b) (stepX b (L.getD k X0) c))))] [2, 4, 8, 9, 10, 13, 14, 15] [.ref 0 [], .p ((eL (eL ePiece 38 dPiece) 1 []) b), .own 1, .ref 2 [], vint .i64 (k : Int), .own 6, vint .i64 (c : Int), .p ((eL (eL eB 1 false) 1 []) (GL b.length (lenB b) (stepX b (L.getD k X0) c)))] [(4, .p ((eL (eL eB 1 false) 1 []) (GL b.length (lenB b) (L.getD k X0))))] [(6, .p ((eL (eL eB 1 false) 1 []) (GL b.length (lenB b) (stepX b (L.getD k X0) c))))] (al (by omega) (al (by omega) (al (by omega) (al (by grind) (al (refStep_ok _ _ _ (by omega) hbn hbm) (trivial)))))) (tr_then (tr_seq (tr_seq (q_k [Pure Try.prog 39 [(eL (eL eB 1 false) 1 []) (GL b.length (lenB b) (stepX b (L.getD k X0) c))] (vbool (decide (noneP (GL b.length (lenB b) (stepX b (L.getD k X0) c)))))] [2, 4, 8, 9, 10, 13, 14, 15, 93] [.ref 0 [], .p ((eL (eL ePiece 38 dPiece) 1 []) b), .own 1, .ref 2 [], vint .i64 (k : Int), .own 6, vint .i64 (c : Int), .p ((eL (eL eB 1 false) 1 []) (GL b.length (lenB b) (stepX b (L.getD k X0) c))), vbool (decide (noneP (GL b.length (lenB b) (stepX b (L.getD k X0) c))))] [] [(1, vbool (decide (noneP (GL b.length (lenB b) (stepX b (L.getD k X0) c)))))] (al (none_ok _ (by rw [GL_len]; omega) (fun j => by have := GL_small (b := b) (stepX b (L.getD k X0) c) hbm j; omega)) (trivial)) (tr_then (tr_cond (decide (noneP (GL b.length (lenB b) (stepX b (L.getD k X0) c)))) (by kernel_rfl) (fun hc7 => ?_) (fun hc7 => ?_))))))))))))
           ·refine tr_seq (q_r [∀ j, j < 1 → ([.v (.int .i64 (-1))] : List PV).getD j default = (fun i => eI (([(-1)] : List Int).getD i 0)) j, ((((rowG (autR b) (L.getD k X0) L c).2).length) + (([(-1)] : List Int).length)) * 8 ≤ 140737488355328] [2, 4, 8, 9, 10, 13, 14] [.ref 0 [], .p ((eL (eL ePiece 38 dPiece) 1 []) b), .own 1, .ref 2 [], vint .i64 (k : Int), .own 7, vint .i64 (c : Int)] [.box (.p (.agg [.v (.slice none 0 0), .v (.slice none 0 0)])), oL 77 (eL (eL eB 1 false) 1 []) 1 [] ((rowG (autR b) (L.getD k X0) L c).1.map (GL b.length (lenB b))), .box (.agg [.own 5, .own 4]), .dead, oL 22 (eL eI 1 0) 1 [] Nx, oL 4 eB 1 false (A ++ ([(accX b (L.getD k X0) q)])), .dead, .arr 3 1 (((rowG (autR b) (L.getD k X0) L c).2).length + ([(-1)] : List Int).length) (appF (fun i => .p (eI (((rowG (autR b) (L.getD k X0) L c).2).getD i 0))) (((rowG (autR b) (L.getD k X0) L c).2).length) (fun j => .p (eI (([(-1)] : List Int).getD j 0))))] [] [(1, .p ((eL eI 1 0) ([(-1)] : List Int)))] (al (lit_pv (e := eI) (d := 0) (l := ([(-1)] : List Int))) (al (by simp_all; omega) (trivial))) (nm_pre (E' := [(2, none, .ref 0 []), (4, none, .p ((eL (eL ePiece 38 dPiece) 1 []) b)), (8, none, .own 1), (9, none, .ref 2 []), (10, none, vint .i64 (k : Int)), (13, none, .own 7), (14, none, vint .i64 (c : Int))]) (H' := [.box (.p (.agg [.v (.slice none 0 0), .v (.slice none 0 0)])), oL 77 (eL (eL eB 1 false) 1 []) 1 [] ((rowG (autR b) (L.getD k X0) L c).1.map (GL b.length (lenB b))), .box (.agg [.own 5, .own 4]), .dead, oL 22 (eL eI 1 0) 1 [] Nx, oL 4 eB 1 false (A ++ ([(accX b (L.getD k X0) q)])), .dead, oL 3 eI 1 0 (((rowG (autR b) (L.getD k X0) L c).2) ++ ([(-1)] : List Int))]) (fun _ _ => sl_arr (n := (((rowG (autR b) (L.getD k X0) L c).2).length + ([(-1)] : List Int).length)) (n' := (((rowG (autR b) (L.getD k X0) L c).2) ++ ([(-1)] : List Int)).length) (f := appF (fun i => .p (eI (((rowG (autR b) (L.getD k X0) L c).2).getD i 0))) (((rowG (autR b) (L.getD k X0) L c).2).length) (fun j => .p (eI (([(-1)] : List Int).getD j 0)))) 7 (fun i => .p (eI ((((rowG (autR b) (L.getD k X0) L c).2) ++ ([(-1)] : List Int)).getD i 0))) (by kernel_rfl) (by simp) (by first | exact appN | exact nilN | exact app0 | exact nilV _)) (tr_then (tr_exit (th_e (in_hit (tr_then (q_k [(IntKind.wrap .i64 ((c : Int) + 1)) = (((c + 1) : Nat) : Int)] [2, 4, 8, 9, 10, 13, 14] [.ref 0 [], .p ((eL (eL ePiece 38 dPiece) 1 []) b), .own 1, .ref 2 [], vint .i64 (k : Int), .own 7, vint .i64 (((c + 1) : Nat) : Int)] [(1, vint .i64 (((c + 1) : Nat) : Int))] [] (al (wr64 (by omega) (by omega) (by omega)) (trivial)) (lp_end (c + 1) ?_ ?_ ?_)))))))))
            ·show ((c + 1) ≤ 37)
             ·omega
            ·show 37 - (c + 1) < 37 - c
             omega
            ·intro A_ W_ hS
             replace hS := sl_arr (e := 77) (sz := 1) (n := ((rowG (autR b) (L.getD k X0) L c).1.map (GL b.length (lenB b))).length) (n' := ((rowG (autR b) (L.getD k X0) L (c + 1)).1.map (GL b.length (lenB b))).length) (f := (fun i => .p ((eL (eL eB 1 false) 1 []) (((rowG (autR b) (L.getD k X0) L c).1.map (GL b.length (lenB b))).getD i [])))) 1 (fun i => .p ((eL (eL eB 1 false) 1 []) (((rowG (autR b) (L.getD k X0) L (c + 1)).1.map (GL b.length (lenB b))).getD i []))) (by kernel_rfl) (by first | (rw [(rowR_n hc7).1]; done) | rfl) (by first | (rw [(rowR_n hc7).1]; exact fun _ _ => rfl) | exact fun _ _ => rfl) hS
             replace hS := sl_arr (e := 3) (sz := 1) (n := (((rowG (autR b) (L.getD k X0) L c).2) ++ ([(-1)] : List Int)).length) (n' := ((rowG (autR b) (L.getD k X0) L (c + 1)).2).length) (f := (fun i => .p (eI ((((rowG (autR b) (L.getD k X0) L c).2) ++ ([(-1)] : List Int)).getD i 0)))) 7 (fun i => .p (eI (((rowG (autR b) (L.getD k X0) L (c + 1)).2).getD i 0))) (by kernel_rfl) (by first | (rw [(rowR_n hc7).2]; done) | (rw [rowR_at hc7]; done)) (by first | (rw [(rowR_n hc7).2]; exact fun _ _ => rfl) | (rw [rowR_at hc7]; exact fun _ _ => rfl)) hS
             exact q_v [∀ i, i < ((rowG (autR b) (L.getD k X0) L (c + 1)).1.map (GL b.length (lenB b))).length → D.p ((eL (eL eB 1 false) 1 []) (((rowG (autR b) (L.getD k X0) L (c + 1)).1.map (GL b.length (lenB b))).getD i [])) = .p ((eL (eL eB 1 false) 1 []) (((rowG (autR b) (L.getD k X0) L (c + 1)).1.map (GL b.length (lenB b))).getD i [])), ∀ i, i < Nx.length → D.p ((eL eI 1 0) (Nx.getD i [])) = .p ((eL eI 1 0) (Nx.getD i [])), ∀ i, i < (A ++ ([(accX b (L.getD k X0) q)])).length → D.p (eB ((A ++ ([(accX b (L.getD k X0) q)])).getD i false)) = .p (eB ((A ++ ([(accX b (L.getD k X0) q)])).getD i false)), ∀ i, i < ((rowG (autR b) (L.getD k X0) L (c + 1)).2).length → D.p (eI (((rowG (autR b) (L.getD k X0) L (c + 1)).2).getD i 0)) = .p (eI (((rowG (autR b) (L.getD k X0) L (c + 1)).2).getD i 0))] [0, 1, 2, 3, 4, 5, 7] [2, 4, 8, 9, 10, 13, 14] (al (fun _ _ => rfl) (al (fun _ _ => rfl) (al (fun _ _ => rfl) (al (fun _ _ => rfl) trivial)))) hS
           ·refine tr_skip (tr_then (tr_seq (tr_lent (T := 77) (sz := 1) (n := ((rowG (autR b) (L.getD k X0) L c).1.map (GL b.length (lenB b))).length) (fo := (fun i => .p ((eL (eL eB 1 false) 1 []) (((rowG (autR b) (L.getD k X0) L c).1.map (GL b.length (lenB b))).getD i [])))) (vc1 := []) (El := [(8, none, .p ((eL (eL (eL eB 1 false) 1 []) 1 []) ((rowG (autR b) (L.getD k X0) L c).1.map (GL b.length (lenB b))))), (15, none, .p ((eL (eL eB 1 false) 1 []) (GL b.length (lenB b) (stepX b (L.getD k X0) c))))]) (E1 := [(98, none, .p ((eL (eL eB 1 false) 1 []) (GL b.length (lenB b) (stepX b (L.getD k X0) c)))), (97, none, .p ((eL (eL (eL eB 1 false) 1 []) 1 []) ((rowG (autR b) (L.getD k X0) L c).1.map (GL b.length (lenB b))))), (8, none, .p ((eL (eL (eL eB 1 false) 1 []) 1 []) ((rowG (autR b) (L.getD k X0) L c).1.map (GL b.length (lenB b))))), (15, none, .p ((eL (eL eB 1 false) 1 []) (GL b.length (lenB b) (stepX b (L.getD k X0) c))))]) (E2 := [(16, none, vint .i64 (findL (GL b.length (lenB b) (stepX b (L.getD k X0) c)) ((rowG (autR b) (L.getD k X0) L c).1.map (GL b.length (lenB b))) 0))]) (E3 := [(2, none, .ref 0 []), (4, none, .p ((eL (eL ePiece 38 dPiece) 1 []) b)), (8, none, .own 1), (9, none, .ref 2 []), (10, none, vint .i64 (k : Int)), (13, none, .own 6), (14, none, vint .i64 (c : Int)), (15, none, .p ((eL (eL eB 1 false) 1 []) (GL b.length (lenB b) (stepX b (L.getD k X0) c))))]) (f := 40) (ps := [(eL (eL (eL eB 1 false) 1 []) 1 []) ((rowG (autR b) (L.getD k X0) L c).1.map (GL b.length (lenB b))), (eL (eL eB 1 false) 1 []) (GL b.length (lenB b) (stepX b (L.getD k X0) c))]) (res := vint .i64 (findL (GL b.length (lenB b) (stepX b (L.getD k X0) c)) ((rowG (autR b) (L.getD k X0) L c).1.map (GL b.length (lenB b))) 0)) 1 (fun j_ => ((eL (eL eB 1 false) 1 []) (((rowG (autR b) (L.getD k X0) L c).1.map (GL b.length (lenB b))).getD j_ []) : PV)) 2 [8, 15] [16] [2, 4, 8, 9, 10, 13, 14, 15] (by kernel_rfl) (fun _ _ => rfl) (by kernel_rfl) (by kernel_rfl) trivial (by rfl) (by rfl) (by rfl) (by rfl) (by kernel_rfl) (by kernel_rfl) (by kernel_rfl) (find_ok _ _ (by rw [List.length_map]; omega) (fun q_ hq_ => by rw [List.length_map] at hq_; rw [getD_GLM hq_]; exact ⟨by rw [GL_len]; omega, fun j_ => by have := GL_small (b := b) ((rowG (autR b) (L.getD k X0) L c).1.getD q_ X0) hbm j_; omega, GL_shape _ _⟩)) (by kernel_rfl) (by kernel_rfl) (by kernel_rfl) (by kernel_rfl) (by kernel_rfl) (tr_then (tr_join (α := Unit) (fun z : Unit => [(2, none, .ref 0 []), (4, none, .p ((eL (eL ePiece 38 dPiece) 1 []) b)), (8, none, .own 1), (9, none, .ref 2 []), (10, none, vint .i64 (k : Int)), (13, none, .own 6), (14, none, vint .i64 (c : Int)), (16, none, vint .i64 (atR b (L.getD k X0) L c))]) (fun z : Unit => [.box (.p (.agg [.v (.slice none 0 0), .v (.slice none 0 0)])), oL 77 (eL (eL eB 1 false) 1 []) 1 [] ((rowG (autR b) (L.getD k X0) L (c + 1)).1.map (GL b.length (lenB b))), .box (.agg [.own 5, .own 4]), .dead, oL 22 (eL eI 1 0) 1 [] Nx, oL 4 eB 1 false (A ++ ([(accX b (L.getD k X0) q)])), oL 3 eI 1 0 ((rowG (autR b) (L.getD k X0) L c).2)]) (fun z : Unit => True) ?_ ?_)))))
            ·intro z hz
             refine q_r [∀ j, j < 1 → ([.v (.int .i64 (atR b (L.getD k X0) L c))] : List PV).getD j default = (fun i => eI (([(atR b (L.getD k X0) L c)]).getD i 0)) j, ((((rowG (autR b) (L.getD k X0) L c).2).length) + (([(atR b (L.getD k X0) L c)]).length)) * 8 ≤ 140737488355328] [2, 4, 8, 9, 10, 13, 14] [.ref 0 [], .p ((eL (eL ePiece 38 dPiece) 1 []) b), .own 1, .ref 2 [], vint .i64 (k : Int), .own 7, vint .i64 (c : Int)] [.box (.p (.agg [.v (.slice none 0 0), .v (.slice none 0 0)])), oL 77 (eL (eL eB 1 false) 1 []) 1 [] ((rowG (autR b) (L.getD k X0) L (c + 1)).1.map (GL b.length (lenB b))), .box (.agg [.own 5, .own 4]), .dead, oL 22 (eL eI 1 0) 1 [] Nx, oL 4 eB 1 false (A ++ ([(accX b (L.getD k X0) q)])), .dead, .arr 3 1 (((rowG (autR b) (L.getD k X0) L c).2).length + ([(atR b (L.getD k X0) L c)]).length) (appF (fun i => .p (eI (((rowG (autR b) (L.getD k X0) L c).2).getD i 0))) (((rowG (autR b) (L.getD k X0) L c).2).length) (fun j => .p (eI (([(atR b (L.getD k X0) L c)]).getD j 0))))] [] [(2, .p ((eL eI 1 0) ([(atR b (L.getD k X0) L c)])))] (al (lit_pv (e := eI) (d := 0) (l := [(atR b (L.getD k X0) L c)])) (al (by simp_all; omega) (trivial))) (nm_pre (E' := [(2, none, .ref 0 []), (4, none, .p ((eL (eL ePiece 38 dPiece) 1 []) b)), (8, none, .own 1), (9, none, .ref 2 []), (10, none, vint .i64 (k : Int)), (13, none, .own 7), (14, none, vint .i64 (c : Int))]) (H' := [.box (.p (.agg [.v (.slice none 0 0), .v (.slice none 0 0)])), oL 77 (eL (eL eB 1 false) 1 []) 1 [] ((rowG (autR b) (L.getD k X0) L (c + 1)).1.map (GL b.length (lenB b))), .box (.agg [.own 5, .own 4]), .dead, oL 22 (eL eI 1 0) 1 [] Nx, oL 4 eB 1 false (A ++ ([(accX b (L.getD k X0) q)])), .dead, oL 3 eI 1 0 (((rowG (autR b) (L.getD k X0) L c).2) ++ ([(atR b (L.getD k X0) L c)]))]) (fun _ _ => sl_arr (n := (((rowG (autR b) (L.getD k X0) L c).2).length + ([(atR b (L.getD k X0) L c)]).length)) (n' := (((rowG (autR b) (L.getD k X0) L c).2) ++ ([(atR b (L.getD k X0) L c)])).length) (f := appF (fun i => .p (eI (((rowG (autR b) (L.getD k X0) L c).2).getD i 0))) (((rowG (autR b) (L.getD k X0) L c).2).length) (fun j => .p (eI (([(atR b (L.getD k X0) L c)]).getD j 0)))) 7 (fun i => .p (eI ((((rowG (autR b) (L.getD k X0) L c).2) ++ ([(atR b (L.getD k X0) L c)])).getD i 0))) (by kernel_rfl) (by simp) (by first | exact appN | exact nilN | exact app0 | exact nilV _)) (in_n (tr_then (q_k [(IntKind.wrap .i64 ((c : Int) + 1)) = (((c + 1) : Nat) : Int)] [2, 4, 8, 9, 10, 13, 14] [.ref 0 [], .p ((eL (eL ePiece 38 dPiece) 1 []) b), .own 1, .ref 2 [], vint .i64 (k : Int), .own 7, vint .i64 (((c + 1) : Nat) : Int)] [(1, vint .i64 (((c + 1) : Nat) : Int))] [] (al (wr64 (by omega) (by omega) (by omega)) (trivial)) (lp_end (c + 1) ?_ ?_ ?_)))))
             ·show ((c + 1) ≤ 37)
              ·omega
             ·show 37 - (c + 1) < 37 - c
              omega
             ·intro A_ W_ hS
              replace hS := sl_arr (e := 3) (sz := 1) (n := (((rowG (autR b) (L.getD k X0) L c).2) ++ ([(atR b (L.getD k X0) L c)])).length) (n' := ((rowG (autR b) (L.getD k X0) L (c + 1)).2).length) (f := (fun i => .p (eI ((((rowG (autR b) (L.getD k X0) L c).2) ++ ([(atR b (L.getD k X0) L c)])).getD i 0)))) 7 (fun i => .p (eI (((rowG (autR b) (L.getD k X0) L (c + 1)).2).getD i 0))) (by kernel_rfl) (by first | (rw [(rowR_n hc7).2]; done) | (rw [rowR_at hc7]; done)) (by first | (rw [(rowR_n hc7).2]; exact fun _ _ => rfl) | (rw [rowR_at hc7]; exact fun _ _ => rfl)) hS
              exact q_v [∀ i, i < ((rowG (autR b) (L.getD k X0) L (c + 1)).1.map (GL b.length (lenB b))).length → D.p ((eL (eL eB 1 false) 1 []) (((rowG (autR b) (L.getD k X0) L (c + 1)).1.map (GL b.length (lenB b))).getD i [])) = .p ((eL (eL eB 1 false) 1 []) (((rowG (autR b) (L.getD k X0) L (c + 1)).1.map (GL b.length (lenB b))).getD i [])), ∀ i, i < Nx.length → D.p ((eL eI 1 0) (Nx.getD i [])) = .p ((eL eI 1 0) (Nx.getD i [])), ∀ i, i < (A ++ ([(accX b (L.getD k X0) q)])).length → D.p (eB ((A ++ ([(accX b (L.getD k X0) q)])).getD i false)) = .p (eB ((A ++ ([(accX b (L.getD k X0) q)])).getD i false)), ∀ i, i < ((rowG (autR b) (L.getD k X0) L (c + 1)).2).length → D.p (eI (((rowG (autR b) (L.getD k X0) L (c + 1)).2).getD i 0)) = .p (eI (((rowG (autR b) (L.getD k X0) L (c + 1)).2).getD i 0))] [0, 1, 2, 3, 4, 5, 7] [2, 4, 8, 9, 10, 13, 14] (al (fun _ _ => rfl) (al (fun _ _ => rfl) (al (fun _ _ => rfl) (al (fun _ _ => rfl) trivial)))) hS
            ·refine tr_seq (q_t [2, 4, 8, 9, 10, 13, 14, 15, 16, 101] [.ref 0 [], .p ((eL (eL ePiece 38 dPiece) 1 []) b), .own 1, .ref 2 [], vint .i64 (k : Int), .own 6, vint .i64 (c : Int), .p ((eL (eL eB 1 false) 1 []) (GL b.length (lenB b) (stepX b (L.getD k X0) c))), vint .i64 (findL (GL b.length (lenB b) (stepX b (L.getD k X0) c)) ((rowG (autR b) (L.getD k X0) L c).1.map (GL b.length (lenB b))) 0), vbool (decide ((findL (GL b.length (lenB b) (stepX b (L.getD k X0) c)) ((rowG (autR b) (L.getD k X0) L c).1.map (GL b.length (lenB b))) 0) < 0))] [.box (.p (.agg [.v (.slice none 0 0), .v (.slice none 0 0)])), oL 77 (eL (eL eB 1 false) 1 []) 1 [] ((rowG (autR b) (L.getD k X0) L c).1.map (GL b.length (lenB b))), .box (.agg [.own 5, .own 4]), .dead, oL 22 (eL eI 1 0) 1 [] Nx, oL 4 eB 1 false (A ++ ([(accX b (L.getD k X0) q)])), oL 3 eI 1 0 ((rowG (autR b) (L.getD k X0) L c).2)] (tr_then (q_e ((findL (GL b.length (lenB b) (stepX b (L.getD k X0) c)) ((rowG (autR b) (L.getD k X0) L c).1.map (GL b.length (lenB b))) 0) < 0) (fun hc8 => ?_) (fun hc8 => ?_))))
             ·refine tr_seq (q_m [2, 4, 8, 9, 10, 13, 14, 15, 16] [.ref 0 [], .p ((eL (eL ePiece 38 dPiece) 1 []) b), .own 1, .ref 2 [], vint .i64 (k : Int), .own 6, vint .i64 (c : Int), .p ((eL (eL eB 1 false) 1 []) (GL b.length (lenB b) (stepX b (L.getD k X0) c))), vint .i64 ((((rowG (autR b) (L.getD k X0) L c).1.map (GL b.length (lenB b))).length : Nat) : Int)] (tr_then (q_r [∀ j, j < 1 → ([(eL (eL eB 1 false) 1 []) (GL b.length (lenB b) (stepX b (L.getD k X0) c))] : List PV).getD j default = (fun i => (eL (eL eB 1 false) 1 []) (([(GL b.length (lenB b) (stepX b (L.getD k X0) c))]).getD i [])) j, ((((rowG (autR b) (L.getD k X0) L c).1.map (GL b.length (lenB b))).length) + (([(GL b.length (lenB b) (stepX b (L.getD k X0) c))]).length)) * 24 ≤ 140737488355328] [2, 4, 8, 9, 10, 13, 14, 16] [.ref 0 [], .p ((eL (eL ePiece 38 dPiece) 1 []) b), .own 7, .ref 2 [], vint .i64 (k : Int), .own 6, vint .i64 (c : Int), vint .i64 ((((rowG (autR b) (L.getD k X0) L c).1.map (GL b.length (lenB b))).length : Nat) : Int)] [.box (.p (.agg [.v (.slice none 0 0), .v (.slice none 0 0)])), .dead, .box (.agg [.own 5, .own 4]), .dead, oL 22 (eL eI 1 0) 1 [] Nx, oL 4 eB 1 false (A ++ ([(accX b (L.getD k X0) q)])), oL 3 eI 1 0 ((rowG (autR b) (L.getD k X0) L c).2), .arr 77 1 (((rowG (autR b) (L.getD k X0) L c).1.map (GL b.length (lenB b))).length + ([(GL b.length (lenB b) (stepX b (L.getD k X0) c))]).length) (appF (fun i => .p ((eL (eL eB 1 false) 1 []) (((rowG (autR b) (L.getD k X0) L c).1.map (GL b.length (lenB b))).getD i []))) (((rowG (autR b) (L.getD k X0) L c).1.map (GL b.length (lenB b))).length) (fun j => .p ((eL (eL eB 1 false) 1 []) (([(GL b.length (lenB b) (stepX b (L.getD k X0) c))]).getD j []))))] [] [(2, .p ((eL (eL (eL eB 1 false) 1 []) 1 []) ([(GL b.length (lenB b) (stepX b (L.getD k X0) c))])))] (al (lit_pv (e := (eL (eL eB 1 false) 1 [])) (d := []) (l := [(GL b.length (lenB b) (stepX b (L.getD k X0) c))])) (al (by simp_all; omega) (trivial))) (nm_pre (E' := [(2, none, .ref 0 []), (4, none, .p ((eL (eL ePiece 38 dPiece) 1 []) b)), (8, none, .own 7), (9, none, .ref 2 []), (10, none, vint .i64 (k : Int)), (13, none, .own 6), (14, none, vint .i64 (c : Int)), (16, none, vint .i64 ((((rowG (autR b) (L.getD k X0) L c).1.map (GL b.length (lenB b))).length : Nat) : Int))]) (H' := [.box (.p (.agg [.v (.slice none 0 0), .v (.slice none 0 0)])), .dead, .box (.agg [.own 5, .own 4]), .dead, oL 22 (eL eI 1 0) 1 [] Nx, oL 4 eB 1 false (A ++ ([(accX b (L.getD k X0) q)])), oL 3 eI 1 0 ((rowG (autR b) (L.getD k X0) L c).2), oL 77 (eL (eL eB 1 false) 1 []) 1 [] (((rowG (autR b) (L.getD k X0) L c).1.map (GL b.length (lenB b))) ++ ([(GL b.length (lenB b) (stepX b (L.getD k X0) c))]))]) (fun _ _ => sl_arr (n := (((rowG (autR b) (L.getD k X0) L c).1.map (GL b.length (lenB b))).length + ([(GL b.length (lenB b) (stepX b (L.getD k X0) c))]).length)) (n' := (((rowG (autR b) (L.getD k X0) L c).1.map (GL b.length (lenB b))) ++ ([(GL b.length (lenB b) (stepX b (L.getD k X0) c))])).length) (f := appF (fun i => .p ((eL (eL eB 1 false) 1 []) (((rowG (autR b) (L.getD k X0) L c).1.map (GL b.length (lenB b))).getD i []))) (((rowG (autR b) (L.getD k X0) L c).1.map (GL b.length (lenB b))).length) (fun j => .p ((eL (eL eB 1 false) 1 []) (([(GL b.length (lenB b) (stepX b (L.getD k X0) c))]).getD j [])))) 7 (fun i => .p ((eL (eL eB 1 false) 1 []) ((((rowG (autR b) (L.getD k X0) L c).1.map (GL b.length (lenB b))) ++ ([(GL b.length (lenB b) (stepX b (L.getD k X0) c))])).getD i []))) (by kernel_rfl) (by simp) (by first | exact appN | exact nilN | exact app0 | exact nilV _)) (jn_end () ?_ ?_)))))
              ·exact trivial
              ·intro A_ W_ hS
               replace hS := q_a (d := vint .i64 ((((rowG (autR b) (L.getD k X0) L c).1.map (GL b.length (lenB b))).length : Nat) : Int)) 16 (vint .i64 (atR b (L.getD k X0) L c)) (eqD_int (by first | (rw [(rowR_a hc7 hc8).2, List.length_map]; done) | exact (rowR_i hc7 hc8).2.symm)) hS
               replace hS := sl_arr (e := 77) (sz := 1) (n := (((rowG (autR b) (L.getD k X0) L c).1.map (GL b.length (lenB b))) ++ ([(GL b.length (lenB b) (stepX b (L.getD k X0) c))])).length) (n' := ((rowG (autR b) (L.getD k X0) L (c + 1)).1.map (GL b.length (lenB b))).length) (f := (fun i => .p ((eL (eL eB 1 false) 1 []) ((((rowG (autR b) (L.getD k X0) L c).1.map (GL b.length (lenB b))) ++ ([(GL b.length (lenB b) (stepX b (L.getD k X0) c))])).getD i [])))) 7 (fun i => .p ((eL (eL eB 1 false) 1 []) (((rowG (autR b) (L.getD k X0) L (c + 1)).1.map (GL b.length (lenB b))).getD i []))) (by kernel_rfl) (by first | (rw [(rowR_a hc7 hc8).1, List.map_append]; rfl) | (rw [(rowR_i hc7 hc8).1]; done)) (by first | (rw [(rowR_a hc7 hc8).1, List.map_append]; exact fun _ _ => rfl) | (rw [(rowR_i hc7 hc8).1]; exact fun _ _ => rfl)) hS
               exact q_v [∀ i, i < ((rowG (autR b) (L.getD k X0) L (c + 1)).1.map (GL b.length (lenB b))).length → D.p ((eL (eL eB 1 false) 1 []) (((rowG (autR b) (L.getD k X0) L (c + 1)).1.map (GL b.length (lenB b))).getD i [])) = .p ((eL (eL eB 1 false) 1 []) (((rowG (autR b) (L.getD k X0) L (c + 1)).1.map (GL b.length (lenB b))).getD i [])), ∀ i, i < Nx.length → D.p ((eL eI 1 0) (Nx.getD i [])) = .p ((eL eI 1 0) (Nx.getD i [])), ∀ i, i < (A ++ ([(accX b (L.getD k X0) q)])).length → D.p (eB ((A ++ ([(accX b (L.getD k X0) q)])).getD i false)) = .p (eB ((A ++ ([(accX b (L.getD k X0) q)])).getD i false)), ∀ i, i < ((rowG (autR b) (L.getD k X0) L c).2).length → D.p (eI (((rowG (autR b) (L.getD k X0) L c).2).getD i 0)) = .p (eI (((rowG (autR b) (L.getD k X0) L c).2).getD i 0))] [0, 7, 2, 3, 4, 5, 6] [2, 4, 8, 9, 10, 13, 14, 16] (al (fun _ _ => rfl) (al (fun _ _ => rfl) (al (fun _ _ => rfl) (al (fun _ _ => rfl) trivial)))) hS
             ·refine tr_skip (jn_end () ?_ ?_)
              ·exact trivial
              ·intro A_ W_ hS
               replace hS := q_a (d := vint .i64 (findL (GL b.length (lenB b) (stepX b (L.getD k X0) c)) ((rowG (autR b) (L.getD k X0) L c).1.map (GL b.length (lenB b))) 0)) 16 (vint .i64 (atR b (L.getD k X0) L c)) (eqD_int (by first | (rw [(rowR_a hc7 hc8).2, List.length_map]; done) | exact (rowR_i hc7 hc8).2.symm)) hS
               replace hS := sl_arr (e := 77) (sz := 1) (n := ((rowG (autR b) (L.getD k X0) L c).1.map (GL b.length (lenB b))).length) (n' := ((rowG (autR b) (L.getD k X0) L (c + 1)).1.map (GL b.length (lenB b))).length) (f := (fun i => .p ((eL (eL eB 1 false) 1 []) (((rowG (autR b) (L.getD k X0) L c).1.map (GL b.length (lenB b))).getD i [])))) 1 (fun i => .p ((eL (eL eB 1 false) 1 []) (((rowG (autR b) (L.getD k X0) L (c + 1)).1.map (GL b.length (lenB b))).getD i []))) (by kernel_rfl) (by first | (rw [(rowR_a hc7 hc8).1, List.map_append]; rfl) | (rw [(rowR_i hc7 hc8).1]; done)) (by first | (rw [(rowR_a hc7 hc8).1, List.map_append]; exact fun _ _ => rfl) | (rw [(rowR_i hc7 hc8).1]; exact fun _ _ => rfl)) hS
               exact q_v [∀ i, i < ((rowG (autR b) (L.getD k X0) L (c + 1)).1.map (GL b.length (lenB b))).length → D.p ((eL (eL eB 1 false) 1 []) (((rowG (autR b) (L.getD k X0) L (c + 1)).1.map (GL b.length (lenB b))).getD i [])) = .p ((eL (eL eB 1 false) 1 []) (((rowG (autR b) (L.getD k X0) L (c + 1)).1.map (GL b.length (lenB b))).getD i [])), ∀ i, i < Nx.length → D.p ((eL eI 1 0) (Nx.getD i [])) = .p ((eL eI 1 0) (Nx.getD i [])), ∀ i, i < (A ++ ([(accX b (L.getD k X0) q)])).length → D.p (eB ((A ++ ([(accX b (L.getD k X0) q)])).getD i false)) = .p (eB ((A ++ ([(accX b (L.getD k X0) q)])).getD i false)), ∀ i, i < ((rowG (autR b) (L.getD k X0) L c).2).length → D.p (eI (((rowG (autR b) (L.getD k X0) L c).2).getD i 0)) = .p (eI (((rowG (autR b) (L.getD k X0) L c).2).getD i 0))] [0, 1, 2, 3, 4, 5, 6] [2, 4, 8, 9, 10, 13, 14, 16] (al (fun _ _ => rfl) (al (fun _ _ => rfl) (al (fun _ _ => rfl) (al (fun _ _ => rfl) trivial)))) hS
          ·refine tr_exit (th_e (th_e (in_hit (tr_then (tr_seq (tr_pre (E' := [(2, none, .ref 0 []), (4, none, .p ((eL (eL ePiece 38 dPiece) 1 []) b)), (8, none, .own 1), (9, none, .ref 2 []), (10, none, vint .i64 (k : Int)), (13, none, .p ((eL eI 1 0) ((rowG (autR b) (L.getD k X0) L c).2))), (14, none, vint .i64 (c : Int)), (82, none, vbool (decide ((c : Int) < 37)))]) (H' := [.box (.p (.agg [.v (.slice none 0 0), .v (.slice none 0 0)])), oL 77 (eL (eL eB 1 false) 1 []) 1 [] ((rowG (autR b) (L.getD k X0) L c).1.map (GL b.length (lenB b))), .box (.agg [.own 5, .own 4]), .dead, oL 22 (eL eI 1 0) 1 [] Nx, oL 4 eB 1 false (A ++ ([(accX b (L.getD k X0) q)])), .dead]) (fun _ _ => sl_freeze (vc := [∀ j, j < ((rowG (autR b) (L.getD k X0) L c).2).length → D.p (eI (((rowG (autR b) (L.getD k X0) L c).2).getD j 0)) = .p ((fun j => eI (((rowG (autR b) (L.getD k X0) L c).2).getD j 0)) j), ∀ i, i < ((rowG (autR b) (L.getD k X0) L c).1.map (GL b.length (lenB b))).length → D.p ((eL (eL eB 1 false) 1 []) (((rowG (autR b) (L.getD k X0) L c).1.map (GL b.length (lenB b))).getD i [])) = .p ((eL (eL eB 1 false) 1 []) (((rowG (autR b) (L.getD k X0) L c).1.map (GL b.length (lenB b))).getD i [])), ∀ i, i < Nx.length → D.p ((eL eI 1 0) (Nx.getD i [])) = .p ((eL eI 1 0) (Nx.getD i [])), ∀ i, i < (A ++ ([(accX b (L.getD k X0) q)])).length → D.p (eB ((A ++ ([(accX b (L.getD k X0) q)])).getD i false)) = .p (eB ((A ++ ([(accX b (L.getD k X0) q)])).getD i false))]) 6 (fun j => eI (((rowG (autR b) (L.getD k X0) L c).2).getD j 0)) (by kernel_rfl) (al (fun _ _ => rfl) (al (fun _ _ => rfl) (al (fun _ _ => rfl) (al (fun _ _ => rfl) trivial))))) (q_r [∀ j, j < 1 → ([(eL eI 1 0) ((rowG (autR b) (L.getD k X0) L c).2)] : List PV).getD j default = (fun i => (eL eI 1 0) (([(rowG (autR b) (L.getD k X0) L c).2]).getD i [])) j, (Nx.length + (([(rowG (autR b) (L.getD k X0) L c).2]).length)) * 24 ≤ 140737488355328] [2, 4, 8, 9, 10] [.ref 0 [], .p ((eL (eL ePiece 38 dPiece) 1 []) b), .own 1, .ref 2 [], vint .i64 (k : Int)] [.box (.p (.agg [.v (.slice none 0 0), .v (.slice none 0 0)])), oL 77 (eL (eL eB 1 false) 1 []) 1 [] ((rowG (autR b) (L.getD k X0) L c).1.map (GL b.length (lenB b))), .box (.agg [.own 5, .own 7]), .dead, .dead, oL 4 eB 1 false (A ++ ([(accX b (L.getD k X0) q)])), .dead, .arr 22 1 (Nx.length + ([(rowG (autR b) (L.getD k X0) L c).2]).length) (appF (fun i => .p ((eL eI 1 0) (Nx.getD i []))) Nx.length (fun j => .p ((eL eI 1 0) (([(rowG (autR b) (L.getD k X0) L c).2]).getD j []))))] [] [(3, .p ((eL (eL eI 1 0) 1 []) ([(rowG (autR b) (L.getD k X0) L c).2])))] (al (lit_pv (e := (eL eI 1 0)) (d := []) (l := [(rowG (autR b) (L.getD k X0) L c).2])) (al (by simp_all; omega) (trivial))) (nm_pre (E' := [(2, none, .ref 0 []), (4, none, .p ((eL (eL ePiece 38 dPiece) 1 []) b)), (8, none, .own 1), (9, none, .ref 2 []), (10, none, vint .i64 (k : Int))]) (H' := [.box (.p (.agg [.v (.slice none 0 0), .v (.slice none 0 0)])), oL 77 (eL (eL eB 1 false) 1 []) 1 [] ((rowG (autR b) (L.getD k X0) L c).1.map (GL b.length (lenB b))), .box (.agg [.own 5, .own 7]), .dead, .dead, oL 4 eB 1 false (A ++ ([(accX b (L.getD k X0) q)])), .dead, oL 22 (eL eI 1 0) 1 [] (Nx ++ ([(rowG (autR b) (L.getD k X0) L c).2]))]) (fun _ _ => sl_arr (n := (Nx.length + ([(rowG (autR b) (L.getD k X0) L c).2]).length)) (n' := (Nx ++ ([(rowG (autR b) (L.getD k X0) L c).2])).length) (f := appF (fun i => .p ((eL eI 1 0) (Nx.getD i []))) Nx.length (fun j => .p ((eL eI 1 0) (([(rowG (autR b) (L.getD k X0) L c).2]).getD j [])))) 7 (fun i => .p ((eL eI 1 0) ((Nx ++ ([(rowG (autR b) (L.getD k X0) L c).2])).getD i []))) (by kernel_rfl) (by simp) (by first | exact appN | exact nilN | exact app0 | exact nilV _)) (tr_then (tr_seq (q_m [2, 4, 8, 9, 10, 120] [.ref 0 [], .p ((eL (eL ePiece 38 dPiece) 1 []) b), .own 1, .ref 2 [], vint .i64 (k : Int), vbool (decide (16 < ((((rowG (autR b) (L.getD k X0) L c).1.map (GL b.length (lenB b))).length : Nat) : Int)))] (tr_then (q_e (16 < ((((rowG (autR b) (L.getD k X0) L c).1.map (GL b.length (lenB b))).length : Nat) : Int)) (fun hc9 => ?_) (fun hc9 => ?_))))))))))))))
           ·refine tr_seq (q_m [2, 3] [.ref 0 [], vint .i64 2] (tr_then (tr_pre (E' := [(2, none, .ref 0 []), (3, none, vint .i64 2)]) (H' := [.box (.p (.agg [.v (.slice none 0 0), .v (.slice none 0 0)]))]) (fun _ _ h => q_w [0] [2, 3] h) (tr_pre (fun _ _ => sl_obj_imp (d := .p (.agg [.v (.slice none 0 0), .v (.slice none 0 0)])) 0 (.p (eLang ((refLang s).1))) (by kernel_rfl) ?_) ?_))))
            ·refine err_lang ?_
             first | (rw [refLang_1 (by omega)]; done) | (rw [refLang_2 (by omega) hc2]; done) | (obtain rfl : c = 37 := (by omega); rw [refLang_3 (by omega) hc2 (by rw [hbb, ← hi1_0]; exact bfsG_many X0 (by omega) (by omega) (by omega))]; done) | (rw [refLang_4 (by omega) hc2 (by rw [hbb, ← hi1_0]; exact bfsG_end (by omega) (by omega))]; done)
            refine q_i (d := vint .i64 2) 3 (vint .i64 ((refLang s).2)) ?_ ?_
            ·refine imp_eq (congrArg (fun x => D.p (eI x)) (a₁ := 2) (a₂ := ((refLang s).2)) ?_)
             first | (rw [refLang_1 (by omega)]; done) | (rw [refLang_2 (by omega) hc2]; done) | (obtain rfl : c = 37 := (by omega); rw [refLang_3 (by omega) hc2 (by rw [hbb, ← hi1_0]; exact bfsG_many X0 (by omega) (by omega) (by omega))]; done) | (rw [refLang_4 (by omega) hc2 (by rw [hbb, ← hi1_0]; exact bfsG_end (by omega) (by omega))]; done)
            exact q_z [.p (eLang ((refLang s).1)), vint .i64 ((refLang s).2)] (fun _ _ h => h)
           ·refine tr_skip (in_n (tr_then (q_k [(IntKind.wrap .i64 ((k : Int) + 1)) = (((k + 1) : Nat) : Int)] [2, 4, 8, 9, 10] [.ref 0 [], .p ((eL (eL ePiece 38 dPiece) 1 []) b), .own 1, .ref 2 [], vint .i64 (((k + 1) : Nat) : Int)] [(1, vint .i64 (((k + 1) : Nat) : Int))] [] (al (wr64 (by omega) (by omega) (by omega)) (trivial)) (lp_end ((k + 1), (rowG (autR b) (L.getD k X0) L 37).1, (A ++ [accX b (L.getD k X0) b.length]), (Nx ++ [(rowG (autR b) (L.getD k X0) L 37).2])) ?_ ?_ ?_))))
            ·show (bfsG (autR b) (17 - (k + 1)) ((rowG (autR b) (L.getD k X0) L 37).1) (k + 1) (A ++ [accX b (L.getD k X0) b.length]) (Nx ++ [(rowG (autR b) (L.getD k X0) L 37).2]) = bfsG (autR b) 17 [startX b] 0 [] []) ∧ ((k + 1) ≤ ((rowG (autR b) (L.getD k X0) L 37).1).length) ∧ (((rowG (autR b) (L.getD k X0) L 37).1).length ≤ 16) ∧ ((A ++ [accX b (L.getD k X0) b.length]).length = (k + 1)) ∧ ((Nx ++ [(rowG (autR b) (L.getD k X0) L 37).2]).length = (k + 1))
             refine ⟨?_, ?_, ?_, ?_, ?_⟩
             ·obtain rfl : c = 37 := (by omega); rw [← hi1_0, bfsG_step (n := 17 - k) X0 (by omega) (by omega) (by omega), Nat.sub_sub]; rfl
             ·omega
             ·grind
             ·(simp_all; done)
             ·(simp_all; done)
            ·show 17 - (k + 1) < 17 - k
             omega
            ·intro A_ W_ hS
             replace hS := sl_arr (e := 77) (sz := 1) (n := ((rowG (autR b) (L.getD k X0) L c).1.map (GL b.length (lenB b))).length) (n' := (((rowG (autR b) (L.getD k X0) L 37).1).map (GL b.length (lenB b))).length) (f := (fun i => .p ((eL (eL eB 1 false) 1 []) (((rowG (autR b) (L.getD k X0) L c).1.map (GL b.length (lenB b))).getD i [])))) 1 (fun i => .p ((eL (eL eB 1 false) 1 []) ((((rowG (autR b) (L.getD k X0) L 37).1).map (GL b.length (lenB b))).getD i []))) (by kernel_rfl) (by first | omega | (intro hg; simp at hg; omega) | (simp; done) | (simp_all; done) | (simp_all; omega) | grind) (by first | omega | (intro hg; simp at hg; omega) | (simp; done) | (simp_all; done) | (simp_all; omega) | grind) hS
             replace hS := sl_arr (e := 4) (sz := 1) (n := (A ++ ([(accX b (L.getD k X0) q)])).length) (n' := (A ++ [accX b (L.getD k X0) b.length]).length) (f := (fun i => .p (eB ((A ++ ([(accX b (L.getD k X0) q)])).getD i false)))) 5 (fun i => .p (eB ((A ++ [accX b (L.getD k X0) b.length]).getD i false))) (by kernel_rfl) (by first | omega | (intro hg; simp at hg; omega) | (simp; done) | (simp_all; done) | (simp_all; omega) | grind) (by first | omega | (intro hg; simp at hg; omega) | (simp; done) | (simp_all; done) | (simp_all; omega) | grind) hS
             replace hS := sl_arr (e := 22) (sz := 1) (n := (Nx ++ ([(rowG (autR b) (L.getD k X0) L c).2])).length) (n' := (Nx ++ [(rowG (autR b) (L.getD k X0) L 37).2]).length) (f := (fun i => .p ((eL eI 1 0) ((Nx ++ ([(rowG (autR b) (L.getD k X0) L c).2])).getD i [])))) 7 (fun i => .p ((eL eI 1 0) ((Nx ++ [(rowG (autR b) (L.getD k X0) L 37).2]).getD i []))) (by kernel_rfl) (by first | omega | (intro hg; simp at hg; omega) | (simp; done) | (simp_all; done) | (simp_all; omega) | grind) (by first | omega | (intro hg; simp at hg; omega) | (simp; done) | (simp_all; done) | (simp_all; omega) | grind) hS
             exact q_v [∀ i, i < (((rowG (autR b) (L.getD k X0) L 37).1).map (GL b.length (lenB b))).length → D.p ((eL (eL eB 1 false) 1 []) ((((rowG (autR b) (L.getD k X0) L 37).1).map (GL b.length (lenB b))).getD i [])) = .p ((eL (eL eB 1 false) 1 []) ((((rowG (autR b) (L.getD k X0) L 37).1).map (GL b.length (lenB b))).getD i [])), ∀ i, i < (A ++ [accX b (L.getD k X0) b.length]).length → D.p (eB ((A ++ [accX b (L.getD k X0) b.length]).getD i false)) = .p (eB ((A ++ [accX b (L.getD k X0) b.length]).getD i false)), ∀ i, i < (Nx ++ [(rowG (autR b) (L.getD k X0) L 37).2]).length → D.p ((eL eI 1 0) ((Nx ++ [(rowG (autR b) (L.getD k X0) L 37).2]).getD i [])) = .p ((eL eI 1 0) ((Nx ++ [(rowG (autR b) (L.getD k X0) L 37).2]).getD i []))] [0, 1, 2, 5, 7] [2, 4, 8, 9, 10] (al (fun _ _ => rfl) (al (fun _ _ => rfl) (al (fun _ _ => rfl) trivial))) hS
      ·refine tr_exit (th_e (th_e (in_hit (tr_then (tr_seq (q_t [2, 3] [.ref 0 [], vint .i64 0] [.box (.agg [.own 3, .own 4]), oL 77 (eL (eL eB 1 false) 1 []) 1 [] (L.map (GL b.length (lenB b))), .box (.agg [.own 3, .own 4]), oL 4 eB 1 false A, oL 22 (eL eI 1 0) 1 [] Nx] (tr_then (tr_pre (E' := [(2, none, .ref 0 []), (3, none, vint .i64 0)]) (H' := [.box (.agg [.own 1, .own 2]), oL 4 eB 1 false A, oL 22 (eL eI 1 0) 1 [] Nx]) (fun A_ W_ hS => sl_weak (vc := [∀ i, i < A.length → D.p (eB (A.getD i false)) = .p (eB (A.getD i false)), ∀ i, i < Nx.length → D.p ((eL eI 1 0) (Nx.getD i [])) = .p ((eL eI 1 0) (Nx.getD i []))]) [0, 3, 4] [2, 3] (by kernel_rfl) (al (fun _ _ => rfl) (al (fun _ _ => rfl) trivial)) hS) (tr_pre (E' := [(2, none, .ref 0 []), (3, none, vint .i64 0)]) (H' := [.box (.agg [.p ((eL eB 1 false) A), .own 2]), .dead, oL 22 (eL eI 1 0) 1 [] Nx]) (fun _ _ => sl_freeze (vc := [∀ j, j < A.length → D.p (eB (A.getD j false)) = .p ((fun j => eB (A.getD j false)) j), ∀ i, i < Nx.length → D.p ((eL eI 1 0) (Nx.getD i [])) = .p ((eL eI 1 0) (Nx.getD i []))]) 1 (fun j => eB (A.getD j false)) (by kernel_rfl) (al (fun _ _ => rfl) (al (fun _ _ => rfl) trivial))) (tr_pre (E' := [(2, none, .ref 0 []), (3, none, vint .i64 0)]) (H' := [.box (.p (.agg [(eL eB 1 false) A, (eL (eL eI 1 0) 1 []) Nx])), .dead, .dead]) (fun _ _ => sl_freeze (vc := [∀ j, j < Nx.length → D.p ((eL eI 1 0) (Nx.getD j [])) = .p ((fun j => (eL eI 1 0) (Nx.getD j [])) j)]) 2 (fun j => (eL eI 1 0) (Nx.getD j [])) (by kernel_rfl) (al (fun _ _ => rfl) trivial)) (tr_pre (fun _ _ => sl_obj_imp (d := .p (.agg [(eL eB 1 false) A, (eL (eL eI 1 0) 1 []) Nx])) 0 (.p (eLang ((refLang s).1))) (by kernel_rfl) ?_) ?_)))))))))))
       ·refine ok_lang ?_
        first | (rw [refLang_1 (by omega)]; done) | (rw [refLang_2 (by omega) hc2]; done) | (obtain rfl : c = 37 := (by omega); rw [refLang_3 (by omega) hc2 (by rw [hbb, ← hi1_0]; exact bfsG_many X0 (by omega) (by omega) (by omega))]; done) | (rw [refLang_4 (by omega) hc2 (by rw [hbb, ← hi1_0]; exact bfsG_end (by omega) (by omega))]; done)
       refine q_i (d := vint .i64 0) 3 (vint .i64 ((refLang s).2)) ?_ ?_
       ·refine imp_eq (congrArg (fun x => D.p (eI x)) (a₁ := 0) (a₂ := ((refLang s).2)) ?_)
        first | (rw [refLang_1 (by omega)]; done) | (rw [refLang_2 (by omega) hc2]; done) | (obtain rfl : c = 37 := (by omega); rw [refLang_3 (by omega) hc2 (by rw [hbb, ← hi1_0]; exact bfsG_many X0 (by omega) (by omega) (by omega))]; done) | (rw [refLang_4 (by omega) hc2 (by rw [hbb, ← hi1_0]; exact bfsG_end (by omega) (by omega))]; done)
       exact q_z [.p (eLang ((refLang s).1)), vint .i64 ((refLang s).2)] (fun _ _ h => h)
end Go.Proofs.Ytjnjmnfacaakfaa
namespace Go.Proofs.Ytjnjmnfacaakfaa
open Go.Eng
structure Lay (ps : List Place) (st : List Int) (b : List (List Piece)) (o : Nat → Nat) : Prop where
 zero : o 0 = 0
 next : ∀ k, k < b.length → o (k + 1) = o k + (b.getD k []).length + 1
 size : ps.length = o b.length
 piece : ∀ k i, k < b.length → i < (b.getD k []).length → PP (ps.getD (o k + i) dPlace) ((b.getD k []).getD i dPiece)
 fin : ∀ k, k < b.length → ps.getD (o k + (b.getD k []).length) dPlace = endP
 start : st.length = b.length ∧ ∀ k, k < b.length → st.getD k 0 = (o k : Int)
theorem rel_getD {ps : List Place} {qs : List Piece} (h : Rel PP ps qs) {i : Nat} (hi : i < qs.length) : PP (ps.getD i dPlace) (qs.getD i dPiece) := by
 rcases h.get i with ⟨_, h2⟩ | ⟨x, y, h1, h2, h3⟩
 ·rw [List.getElem?_eq_getElem hi] at h2; cases h2
 ·rw [List.getD_eq_getElem?_getD, List.getD_eq_getElem?_getD, h1, h2]; exact h3
theorem lay_of {bp : List (List Place)} {b : List (List Piece)} (h : Rel BR bp b) : ∀ d : Nat, ∃ o : Nat → Nat, o 0 = 0 ∧ (∀ k, k < b.length → o (k + 1) = o k + (b.getD k []).length + 1) ∧ bp.flatten.length = o b.length ∧
  (∀ k i, k < b.length → i < (b.getD k []).length → PP (bp.flatten.getD (o k + i) dPlace) ((b.getD k []).getD i dPiece)) ∧ (∀ k, k < b.length → bp.flatten.getD (o k + (b.getD k []).length) dPlace = endP) ∧
  (offs d bp).length = b.length ∧ ∀ k, k < b.length → (offs d bp).getD k 0 = ((d + o k : Nat) : Int) := by
 induction h with
 | nil => exact fun d => ⟨fun _ => 0, rfl, fun k hk => by simp at hk, rfl, fun k i hk => by simp at hk, fun k hk => by simp at hk, rfl, fun k hk => by simp at hk⟩
 | @cons p q bp b hx _ ih =>
  intro d
  obtain ⟨body, rfl, hR⟩ := hx
  have hl := hR.length
  obtain ⟨o, h1, h2, h3, h4, h5, h6, h7⟩ := ih (d + (body ++ [endP]).length)
  have hbl : (body ++ [endP]).length = q.length + 1 := by simp [hl]
  have gL : ∀ j, j < q.length + 1 → ((body ++ [endP]) ++ bp.flatten).getD j dPlace = (body ++ [endP]).getD j dPlace := fun j hj => by
   rw [List.getD_eq_getElem?_getD, List.getD_eq_getElem?_getD, List.getElem?_append_left (by omega)]
  have gR : ∀ j, ((body ++ [endP]) ++ bp.flatten).getD (q.length + 1 + j) dPlace = bp.flatten.getD j dPlace := fun j => by
   rw [List.getD_eq_getElem?_getD, List.getD_eq_getElem?_getD, List.getElem?_append_right (by omega), hbl]
   congr 2; omega
  refine ⟨fun k => match k with | 0 => 0 | k + 1 => q.length + 1 + o k, rfl, fun k hk => ?_, ?_, fun k i hk hi => ?_, fun k hk => ?_, ?_, fun k hk => ?_⟩
  ·cases k with
   | zero => show q.length + 1 + o 0 = 0 + q.length + 1; omega
   | succ k =>
    show q.length + 1 + o (k + 1) = q.length + 1 + o k + (b.getD k []).length + 1
    have := h2 k (by simpa using hk); omega
  ·show ((body ++ [endP]) ++ bp.flatten).length = q.length + 1 + o b.length
   rw [List.length_append, hbl, h3]
  ·rw [List.flatten_cons]
   cases k with
   | zero =>
    have hi : i < q.length := hi
    show PP (((body ++ [endP]) ++ bp.flatten).getD (0 + i) dPlace) (q.getD i dPiece)
    rw [Nat.zero_add, gL i (by omega), List.getD_eq_getElem?_getD, List.getElem?_append_left (by omega), ← List.getD_eq_getElem?_getD]
    exact rel_getD hR hi
   | succ k =>
    show PP (((body ++ [endP]) ++ bp.flatten).getD (q.length + 1 + o k + i) dPlace) ((b.getD k []).getD i dPiece)
    rw [Nat.add_assoc, gR]
    exact h4 k i (by simpa using hk) hi
  ·rw [List.flatten_cons]
   cases k with
   | zero =>
    show ((body ++ [endP]) ++ bp.flatten).getD (0 + q.length) dPlace = endP
    rw [Nat.zero_add, gL q.length (by omega), List.getD_eq_getElem?_getD, List.getElem?_append_right (by omega), hl, Nat.sub_self]; rfl
   | succ k =>
    show ((body ++ [endP]) ++ bp.flatten).getD (q.length + 1 + o k + (b.getD k []).length) dPlace = endP
    rw [Nat.add_assoc, gR]
    exact h5 k (by simpa using hk)
  ·show (offs (d + (body ++ [endP]).length) bp).length + 1 = b.length + 1
   rw [h6]
  ·cases k with
   | zero => show (d : Int) = ((d + 0 : Nat) : Int); rw [Nat.add_zero]
   | succ k =>
    show (offs (d + (body ++ [endP]).length) bp).getD k 0 = ((d + (q.length + 1 + o k) : Nat) : Int)
    rw [h7 k (by simpa using hk), hbl]
    congr 1; omega
section
variable {ps : List Place} {st : List Int} {b : List (List Piece)} {o : Nat → Nat}
theorem Lay.lt (h : Lay ps st b o) : ∀ {k' k : Nat}, k < k' → k' ≤ b.length → o k + (b.getD k []).length + 1 ≤ o k'
 | 0, k, hk, _ => by omega
 | k' + 1, k, hk, hb => by
  have e := h.next k' (by omega)
  by_cases hkk : k = k'
  ·subst hkk; omega
  ·have := h.lt (k' := k') (k := k) (by omega) (by omega)
   omega
theorem Lay.uniq (h : Lay ps st b o) {k k' i i' : Nat} (hk : k < b.length) (hk' : k' < b.length) (hi : i ≤ (b.getD k []).length) (hi' : i' ≤ (b.getD k' []).length) (e : o k + i = o k' + i') : k = k' ∧ i = i' := by
 rcases Nat.lt_trichotomy k k' with h1 | h1 | h1
 ·have := h.lt h1 (by omega); omega
 ·subst h1; exact ⟨rfl, by omega⟩
 ·have := h.lt h1 (by omega); omega
theorem Lay.cover (h : Lay ps st b o) : ∀ {m j : Nat}, m ≤ b.length → j < o m → ∃ k i, k < m ∧ i ≤ (b.getD k []).length ∧ j = o k + i
 | 0, j, _, hj => by rw [h.zero] at hj; omega
 | m + 1, j, hm, hj => by
  have e := h.next m (by omega)
  by_cases h1 : j < o m
  ·obtain ⟨k, i, a1, a2, a3⟩ := h.cover (m := m) (by omega) h1
   exact ⟨k, i, by omega, a2, a3⟩
  ·exact ⟨m, j - o m, by omega, by omega, by omega⟩
theorem Lay.inside (h : Lay ps st b o) {k i : Nat} (hk : k < b.length) (hi : i ≤ (b.getD k []).length) : o k + i < ps.length := by
 have := h.lt (k' := b.length) (k := k) hk (Nat.le_refl _)
 rw [h.size]; omega
def RR (ps : List Place) (b : List (List Piece)) (o : Nat → Nat) (S : Pl) (X : Nat → Nat → Bool) : Prop := (∀ k i, k < b.length → i ≤ (b.getD k []).length → S (o k + i) = X k i) ∧ ∀ j, ps.length ≤ j → S j = false
theorem rowSp_iff {p : List Piece} {S : Nat → Bool} {c : Nat} : ∀ (m j : Nat), rowSp p S c m j = true ↔ ∃ i, i < m ∧ S i = true ∧ (p.getD i dPiece).Set c = true ∧ j = if (p.getD i dPiece).More = 42 then i else i + 1
 | 0, j => by simp [rowSp]
 | m + 1, j => by
  rw [rowSp]
  by_cases hc : S m = true ∧ (p.getD m dPiece).Set c = true
  ·rw [if_pos hc]
   unfold upd
   by_cases hj : j = if (p.getD m dPiece).More = 42 then m else m + 1
   ·rw [if_pos hj]; exact ⟨fun _ => ⟨m, by omega, hc.1, hc.2, hj⟩, fun _ => rfl⟩
   ·rw [if_neg hj, rowSp_iff m j]
    constructor
    ·rintro ⟨i, h1, h2⟩; exact ⟨i, by omega, h2⟩
    ·rintro ⟨i, h1, h2, h3, h4⟩
     by_cases hi : i = m
     ·subst hi; exact absurd h4 hj
     ·exact ⟨i, by omega, h2, h3, h4⟩
  ·rw [if_neg hc, rowSp_iff m j]
   constructor
   ·rintro ⟨i, h1, h2⟩; exact ⟨i, by omega, h2⟩
   ·rintro ⟨i, h1, h2, h3, h4⟩
    by_cases hi : i = m
    ·subst hi; exact absurd ⟨h2, h3⟩ hc
    ·exact ⟨i, by omega, h2, h3, h4⟩
theorem rowCl_iff {p : List Piece} {S : Nat → Bool} : ∀ (n j : Nat), rowCl p S n j = true ↔ ∃ i, i ≤ j ∧ S i = true ∧ ∀ k, i ≤ k → k < j → k < n ∧ (p.getD k dPiece).More ≠ 0
 | 0, j => by
  constructor
  ·intro h
   exact ⟨j, Nat.le_refl _, h, fun k h1 h2 => by omega⟩
  ·rintro ⟨i, h1, h2, h3⟩
   have : i = j := by
    by_cases h : i < j
    ·have := (h3 i (Nat.le_refl _) h).1; omega
    ·omega
   subst this
   exact h2
 | n + 1, j => by
  unfold rowCl
  split
  ·rename_i hc
   obtain ⟨i0, a1, a2, a3⟩ := (rowCl_iff n n).1 hc.1
   unfold upd
   by_cases hj : j = n + 1
   ·rw [if_pos hj]
    refine ⟨fun _ => ⟨i0, by omega, a2, fun k h1 h2 => ?_⟩, fun _ => rfl⟩
    by_cases hk : k = n
    ·subst hk; exact ⟨by omega, hc.2⟩
    ·have := a3 k h1 (by omega); exact ⟨by omega, this.2⟩
   ·rw [if_neg hj, rowCl_iff n j]
    constructor
    ·rintro ⟨i, h1, h2, h3⟩
     exact ⟨i, h1, h2, fun k k1 k2 => ⟨by have := (h3 k k1 k2).1; omega, (h3 k k1 k2).2⟩⟩
    ·rintro ⟨i, h1, h2, h3⟩
     refine ⟨i, h1, h2, fun k k1 k2 => ⟨?_, (h3 k k1 k2).2⟩⟩
     have := (h3 k k1 k2).1
     have := (h3 (j - 1) (by omega) (by omega)).1
     omega
  ·rename_i hc
   rw [rowCl_iff n j]
   constructor
   ·rintro ⟨i, h1, h2, h3⟩
    exact ⟨i, h1, h2, fun k k1 k2 => ⟨by have := (h3 k k1 k2).1; omega, (h3 k k1 k2).2⟩⟩
   ·rintro ⟨i, h1, h2, h3⟩
    refine ⟨i, h1, h2, fun k k1 k2 => ⟨?_, (h3 k k1 k2).2⟩⟩
    have q1 := (h3 k k1 k2).1
    by_cases hk : k = n
    ·exfalso
     subst hk
     refine hc ⟨(rowCl_iff k k).2 ⟨i, k1, h2, fun m m1 m2 => ⟨m2, (h3 m m1 (by omega)).2⟩⟩, (h3 k k1 k2).2⟩
    ·omega
theorem endP_bit (c : Int) (h : 0 ≤ c) : bitOf endP.fSet c = false := by
 obtain ⟨n, rfl⟩ := Int.eq_ofNat_of_zero_le h
 exact bit0 n
theorem rr_sp (h : Lay ps st b o) {S : Pl} {X : Nat → Nat → Bool} {c : Nat} (hc : c < 37) (hR : RR ps b o S X) : RR ps b o (sp ps S c ps.length) (spX b X c b.length 0) := by
 have key : ∀ j, sp ps S c ps.length j = true → ∃ k i, k < b.length ∧ i < (b.getD k []).length ∧ X k i = true ∧ ((b.getD k []).getD i dPiece).Set c = true ∧ j = o k + (if ((b.getD k []).getD i dPiece).More = 42 then i else i + 1) := fun j hj => by
  obtain ⟨j0, a1, a2, a3, a4⟩ := (sp_iff _ _).1 hj
  obtain ⟨k, i, b1, b2, rfl⟩ := h.cover (m := b.length) (Nat.le_refl _) (by rw [← h.size]; exact a1)
  by_cases hi : i = (b.getD k []).length
  ·subst hi
   rw [h.fin k b1, endP_bit _ (by omega)] at a3
   cases a3
  ·obtain ⟨p1, p2, p3, p4⟩ := h.piece k i b1 (by omega)
   refine ⟨k, i, b1, by omega, by rw [← hR.1 k i b1 b2]; exact a2, by rw [← p4 c hc]; exact a3, ?_⟩
   rw [a4]
   unfold nxt
   rw [p2]
   split <;> omega
 refine ⟨fun k i hk hi => ?_, fun j hj => ?_⟩
 ·have e : spX b X c b.length 0 k = rowSp (b.getD k []) (X k) c (b.getD k []).length := by unfold spX; rw [if_pos hk]
  rw [e, Bool.eq_iff_iff, rowSp_iff]
  constructor
  ·intro hj
   obtain ⟨k', i', a1, a2, a3, a4, a5⟩ := key _ hj
   obtain ⟨rfl, rfl⟩ := h.uniq hk a1 hi (by split <;> omega) a5
   exact ⟨i', a2, a3, a4, rfl⟩
  ·rintro ⟨i', a1, a2, a3, rfl⟩
   obtain ⟨p1, p2, p3, p4⟩ := h.piece k i' hk a1
   refine (sp_iff _ _).2 ⟨o k + i', h.inside hk (by omega), by rw [hR.1 k i' hk (by omega)]; exact a2, by rw [p4 c hc]; exact a3, ?_⟩
   unfold nxt
   rw [p2]
   split <;> omega
 ·cases hs : sp ps S c ps.length j with
  | false => rfl
  | true =>
   obtain ⟨k', i', a1, a2, a3, a4, a5⟩ := key _ hs
   have : (if ((b.getD k' []).getD i' dPiece).More = 42 then i' else i' + 1) ≤ (b.getD k' []).length := by split <;> omega
   have := h.inside a1 this
   omega
theorem rr_cl (h : Lay ps st b o) {S : Pl} {X : Nat → Nat → Bool} (hR : RR ps b o S X) : RR ps b o (closedS ps S) (closedX b X) := by
 refine ⟨fun k i hk hi => ?_, fun j hj => ?_⟩
 ·have e : closedX b X k = rowCl (b.getD k []) (X k) (b.getD k []).length := by unfold closedX clX; rw [if_pos hk]
  rw [e, Bool.eq_iff_iff, closedS_iff, rowCl_iff]
  constructor
  ·rintro ⟨j0, a1, a2, a3⟩
   have hin := h.inside hk hi
   obtain ⟨k0, i0, b1, b2, rfl⟩ := h.cover (m := b.length) (j := j0) (Nat.le_refl _) (by rw [← h.size]; omega)
   rcases Nat.lt_trichotomy k0 k with h1 | h1 | h1
   ·have hl := h.lt h1 (by omega)
    have := (a3 (o k0 + (b.getD k0 []).length) (by omega) (by omega)).2
    rw [h.fin k0 b1] at this
    exact absurd rfl this
   ·subst h1
    refine ⟨i0, by omega, by rw [← hR.1 k0 i0 hk b2]; exact a2, fun m m1 m2 => ?_⟩
    obtain ⟨p1, p2, p3, p4⟩ := h.piece k0 m hk (by omega)
    have := (a3 (o k0 + m) (by omega) (by omega)).2
    exact ⟨by omega, by rw [← p2]; exact this⟩
   ·have hl := h.lt h1 (by omega)
    omega
  ·rintro ⟨i0, a1, a2, a3⟩
   refine ⟨o k + i0, by omega, by rw [hR.1 k i0 hk (by omega)]; exact a2, fun m m1 m2 => ?_⟩
   have hin := h.inside hk hi
   obtain ⟨q1, q2⟩ := a3 (m - o k) (by omega) (by omega)
   obtain ⟨p1, p2, p3, p4⟩ := h.piece k (m - o k) hk q1
   rw [show o k + (m - o k) = m by omega] at p2
   exact ⟨by omega, by rw [p2]; exact q2⟩
 ·cases hs : closedS ps S j with
  | false => rfl
  | true =>
   obtain ⟨j0, a1, a2, a3⟩ := (closedS_iff j).1 hs
   by_cases hj0 : ps.length ≤ j0
   ·rw [hR.2 j0 hj0] at a2; cases a2
   ·obtain ⟨k0, i0, b1, b2, rfl⟩ := h.cover (m := b.length) (j := j0) (Nat.le_refl _) (by rw [← h.size]; omega)
    have hin := h.inside b1 (Nat.le_refl _)
    have := (a3 (o k0 + (b.getD k0 []).length) (by omega) (by omega)).2
    rw [h.fin k0 b1] at this
    exact absurd rfl this
theorem accX_iff {X : Nat → Nat → Bool} : ∀ m, accX b X m = true ↔ ∃ k, k < m ∧ X k (b.getD k []).length = true
 | 0 => by simp [accX]
 | m + 1 => by
  unfold accX
  rw [Bool.or_eq_true, accX_iff m]
  constructor
  ·rintro (⟨k, h1, h2⟩ | h)
   ·exact ⟨k, by omega, h2⟩
   ·exact ⟨m, by omega, h⟩
  ·rintro ⟨k, h1, h2⟩
   by_cases hk : k = m
   ·subst hk; exact .inr h2
   ·exact .inl ⟨k, by omega, h2⟩
theorem rr_acc (h : Lay ps st b o) {S : Pl} {X : Nat → Nat → Bool} (hR : RR ps b o S X) : acceptS ps S = accX b X b.length := by
 unfold acceptS
 rw [Bool.eq_iff_iff, acc_iff, accX_iff]
 constructor
 ·rintro ⟨j, a1, a2, a3⟩
  obtain ⟨k, i, b1, b2, rfl⟩ := h.cover (m := b.length) (Nat.le_refl _) (by rw [← h.size]; exact a1)
  by_cases hi : i = (b.getD k []).length
  ·subst hi
   exact ⟨k, b1, by rw [← hR.1 k _ b1 (Nat.le_refl _)]; exact a3⟩
  ·obtain ⟨p1, _⟩ := h.piece k i b1 (by omega)
   rw [p1] at a2; cases a2
 ·rintro ⟨k, a1, a2⟩
  exact ⟨_, h.inside a1 (Nat.le_refl _), by rw [h.fin k a1]; rfl, by rw [hR.1 k _ a1 (Nat.le_refl _)]; exact a2⟩
theorem key_iff {S T : Pl} : keyS S = keyS T ↔ ∀ i, i < 128 → S i = T i := by
 constructor
 ·intro e i hi
  have e0 : setW S 0 = setW T 0 := congrArg (fun l => l.getD 0 0) e
  have e1 : setW S 1 = setW T 1 := congrArg (fun l => l.getD 1 0) e
  have e0 := wordN_inj (Int.ofNat.inj e0)
  have e1 := wordN_inj (Int.ofNat.inj e1)
  by_cases hj : i < 64
  ·have := e0 i hj
   simpa using this
  ·have : S (64 * 1 + (i - 64)) = T (64 * 1 + (i - 64)) := e1 (i - 64) (by omega)
   rwa [show 64 * 1 + (i - 64) = i by omega] at this
 ·intro h
  have key : ∀ q, q < 2 → setW S q = setW T q := by
   intro q hq
   unfold setW
   congr 1
   exact wordN_congr fun i hi => by rw [h _ (by omega)]
  unfold keyS
  rw [key 0 (by omega), key 1 (by omega)]
theorem rr_same (h : Lay ps st b o) (hp : ps.length ≤ 128) {S T : Pl} {X Y : Nat → Nat → Bool} (hS : RR ps b o S X) (hT : RR ps b o T Y) : keyS S = keyS T ↔ sameP (GL b.length (lenB b) X) (GL b.length (lenB b) Y) := by
 rw [key_iff]
 unfold sameP
 rw [GL_len]
 constructor
 ·intro e k hk i hi
  rw [GL_rlen hk] at hi
  rw [GL_get hk hi, GL_get hk hi, ← hS.1 k i hk (by unfold lenB at hi; omega), ← hT.1 k i hk (by unfold lenB at hi; omega)]
  have := h.inside hk (show i ≤ _ by unfold lenB at hi; omega)
  exact e _ (by omega)
 ·intro e j hj
  by_cases hjn : j < ps.length
  ·obtain ⟨k, i, b1, b2, rfl⟩ := h.cover (m := b.length) (Nat.le_refl _) (by rw [← h.size]; exact hjn)
   have := e k b1 i (by rw [GL_rlen b1]; unfold lenB; omega)
   rw [GL_get b1 (by unfold lenB; omega), GL_get b1 (by unfold lenB; omega)] at this
   rw [hS.1 k i b1 b2, hT.1 k i b1 b2, this]
  ·rw [hS.2 j (by omega), hT.2 j (by omega)]
theorem rr_none (h : Lay ps st b o) (hp : ps.length ≤ 128) {S : Pl} {X : Nat → Nat → Bool} (hS : RR ps b o S X) : keyS S = [0, 0] ↔ noneP (GL b.length (lenB b) X) := by
 rw [← keyS_none, key_iff]
 unfold noneP
 rw [GL_len]
 constructor
 ·intro e k hk i hi
  rw [GL_rlen hk] at hi
  rw [GL_get hk hi, ← hS.1 k i hk (by unfold lenB at hi; omega)]
  have := h.inside hk (show i ≤ _ by unfold lenB at hi; omega)
  exact e _ (by omega)
 ·intro e j hj
  by_cases hjn : j < ps.length
  ·obtain ⟨k, i, b1, b2, rfl⟩ := h.cover (m := b.length) (Nat.le_refl _) (by rw [← h.size]; exact hjn)
   have := e k b1 i (by rw [GL_rlen b1]; unfold lenB; omega)
   rw [GL_get b1 (by unfold lenB; omega)] at this
   rw [hS.1 k i b1 b2, this]; rfl
  ·rw [hS.2 j (by omega)]; rfl
theorem decide_iff {p q : Prop} [Decidable p] [Decidable q] (h : p ↔ q) : decide p = decide q := by
 by_cases hp : p
 ·rw [decide_eq_true hp, decide_eq_true (h.1 hp)]
 ·rw [decide_eq_false hp, decide_eq_false (fun hq => hp (h.2 hq))]
theorem side_R (h : Lay ps st b o) (hp : ps.length ≤ 127) : Side (autP ps) (autR b) (RR ps b o) where
 step := fun S X c hc hR => rr_cl h (rr_sp h hc hR)
 none := fun S X hR => decide_iff (rr_none h (by omega) hR)
 acc := fun S X hR => rr_acc h hR
 same := fun S X S' X' hR hR' => decide_iff (rr_same h (by omega) hR hR')
theorem rr_start (h : Lay ps st b o) : RR ps b o (closedS ps (startAt st st.length)) (startX b) := by
 refine rr_cl h ⟨fun k i hk hi => ?_, fun j hj => ?_⟩
 ·have e : stX b.length k i = decide (i = 0) := by
   unfold stX
   rw [if_pos hk]
   unfold upd
   by_cases h0 : i = 0
   ·rw [if_pos h0, decide_eq_true h0]
   ·rw [if_neg h0, decide_eq_false h0]
  rw [e, Bool.eq_iff_iff, startAt_iff, decide_eq_true_eq]
  constructor
  ·rintro ⟨k', a1, a2⟩
   rw [h.start.1] at a1
   rw [h.start.2 k' a1, Int.toNat_natCast] at a2
   exact (h.uniq hk a1 hi (Nat.zero_le _) (by omega)).2
  ·rintro rfl
   exact ⟨k, by rw [h.start.1]; exact hk, by rw [h.start.2 k hk]; simp⟩
 ·cases hs : startAt st st.length j with
  | false => rfl
  | true =>
   obtain ⟨k', a1, a2⟩ := (startAt_iff _ _).1 hs
   rw [h.start.1] at a1
   rw [h.start.2 k' a1, Int.toNat_natCast] at a2
   have := h.inside a1 (Nat.zero_le _)
   omega
end
theorem refLang_eq (s : List UInt8) : refLang s = langS s := by
 unfold refLang langS
 by_cases h64 : 64 < s.length
 ·rw [if_pos h64, if_pos h64]
 ·rw [if_neg h64, if_neg h64]
  obtain ⟨g1, g2, g3⟩ := parseS_bound (s := s)
  rcases branchesR_B s with ⟨h1, h2⟩ | ⟨b, bp, h1, h2, h3⟩
  ·rw [h1, parseS_B, h2]; rfl
  ·obtain ⟨o, a1, a2, a3, a4, a5, a6, a7⟩ := lay_of h3 0
   have e1 : plOf (parseS s) = bp.flatten := by rw [parseS_B, h2]; rfl
   have e2 : stOf (parseS s) = offs 0 bp := by rw [parseS_B, h2]; rfl
   have hL : Lay (plOf (parseS s)) (stOf (parseS s)) b o := by
    rw [e1, e2]
    exact ⟨a1, a2, a3, a4, a5, a6, fun k hk => by rw [a7 k hk, Nat.zero_add]⟩
   have hs : (parseS s).isSome = true := by rw [parseS_B, h2]; rfl
   rw [h1, hs]
   simp only [Option.isSome_some, Bool.true_eq_false, if_false, brOf]
   rw [bfs_G, show startS (parseS s) = closedS (plOf (parseS s)) (startAt (stOf (parseS s)) (stOf (parseS s)).length) from rfl, bfsG_side (side_R hL (by omega)) (.cons (rr_start hL) .nil)]
   rfl
end Go.Proofs.Ytjnjmnfacaakfaa
namespace Go.Proofs.Ytjnjmnfacaakfaa
open Go.Eng
def madeP (l : List Int) : List UInt8 := patS (l.take 24)
theorem rem_nat {a : Int} {n : Nat} (h : 0 ≤ a) : a.tmod (n : Int) = ((a.toNat % n : Nat) : Int) := by
 rw [Int.tmod_eq_emod_of_nonneg h]
 conv => lhs; rw [← Int.toNat_of_nonneg h]
 rfl
theorem madeP_len (l : List Int) : (madeP l).length ≤ 56 := by
 have := patS_len (l.take 24)
 unfold madeP; omega
theorem langS_rows (s : List UInt8) : (langS s).1.Next.length ≤ 16 ∧ ∀ j, j < (langS s).1.Next.length → ((langS s).1.Next.getD j []).length = 37 := by
 by_cases h : (langS s).2 = 0
 ·obtain ⟨f1, f2, f3, f4⟩ := check_facts (langS_check (s := s) (l := (langS s).1) (Prod.ext rfl h))
  exact ⟨by omega, fun j hj => (f4 j (by omega)).1⟩
 ·have e : (langS s).1 = dLang := by
   unfold langS at h ⊢
   split
   ·rfl
   ·split
    ·rfl
    ·split
     ·rename_i h2; simp_all
     ·rfl
  rw [e]
  exact ⟨by simp [dLang], fun j hj => by simp [dLang] at hj⟩
end Go.Proofs.Ytjnjmnfacaakfaa
namespace Go.Proofs.Ytjnjmnfacaakfaa
open Go.Eng
def mdL (l : List Int) : Lang := (langS (madeP l)).1
def iAn (l : List Int) (q : Nat → Int) : Nat := (q 0 % ((numc (mdL l) : Nat) : Int)).toNat
def jAn (q : Nat → Int) : Nat := (q 1 % 37).toNat
theorem liveS_16 (l : Lang) : (liveS l).length ≤ 16 := by
 unfold liveS
 split
 ·simp
 ·rename_i h
  have := (check_facts (Classical.not_not.1 h)).2.1
  rw [liveL, outL_len]; omega
def yAn (l : List Int) (x raw : Lang) (k : Nat) : Lang := ([mdL l, x, copyS raw]).getD k dLang
theorem firstS_100 (l : Lang) (m : Int) : (firstS l m).length ≤ 100 := by
 unfold firstS
 split
 ·simp
 ·rw [List.length_take]; omega
theorem answers_ok (l : List Int) (q : Nat → Int) (n : List Int) (s : List UInt8) (raw : Lang) (m : Int) (hb0 : s.length < 4611686018427387904) (hb1 : n.length < 4611686018427387904) : Pure Try.prog 6 [(eL eI 1 0) l, (eA eI 1 3) q, (eL eI 1 0) n, .s s, eLang raw, .v (.int .i64 m)] (vbool true) := by
 have hml := madeP_len l
 have hwl := word_len n
 refine pure_of (fn := Try.f6) Try.func6 rfl rfl fun F_ W0_ => ?_
 refine tr_seq (q_t [0, 2, 3, 5, 7, 10] [.p ((eL eI 1 0) l), .p ((eL eI 1 0) n), vstr s, vint .i64 m, .ref 0 [], .ref 1 []] [.box (.p ((eA eI 1 3) q)), .box (.p (eLang raw))] (tr_then (tr_seq (q_k [Pure Try.prog 8 [] (vbool true)] [0, 2, 3, 5, 7, 10, 13] [.p ((eL eI 1 0) l), .p ((eL eI 1 0) n), vstr s, vint .i64 m, .ref 0 [], .ref 1 [], vbool true] [] [(0, vbool true)] (al sanity_ok (trivial)) (tr_then (tr_seq (q_r [Pure Try.prog 10 [(eL eI 1 0) l] (.p ((eL eI 1 0) (l.take 24))), Pure Try.prog 9 [(eL eI 1 0) (l.take 24)] (vstr (patS (l.take 24))), Pure Try.prog 12 [.s (patS (l.take 24))] (.tup [.p (eLang ((langS (patS (l.take 24))).1)), vint .i64 ((langS (patS (l.take 24))).2)]), (.p (eLang ((langS (patS (l.take 24))).1)) : D) = .p (eLang (mdL l))] [2, 3, 5, 7, 10, 13, 14] [.p ((eL eI 1 0) n), vstr s, vint .i64 m, .ref 0 [], .ref 1 [], vbool true, .ref 2 []] [.box (.p ((eA eI 1 3) q)), .box (.p (eLang raw)), .box (.p (eLang (mdL l)))] [(5, .p (eLang (mdL l)))] [(1, .p ((eL eI 1 0) (l.take 24))), (2, vstr (patS (l.take 24))), (3, .tup [.p (eLang ((langS (patS (l.take 24))).1)), vint .i64 ((langS (patS (l.take 24))).2)])] ?_ ?_)))))))
 ·refine al (cut_ok _) (al (pattern_ok _ (by (simp_all; omega))) (al ?_ (al (by rfl) (trivial))))
  ·have h_ := refParseB_ok (patS (l.take 24)) _ (by have := patS_len (l.take 24); omega) rfl; rw [refLang_eq] at h_; exact h_
 refine tr_then (tr_seq (tr_callT (E1 := (30, none, .p (eLang (mdL l))) :: [(2, none, .p ((eL eI 1 0) n)), (3, none, vstr s), (5, none, vint .i64 m), (7, none, .ref 0 []), (10, none, .ref 1 []), (13, none, vbool true), (14, none, .ref 2 [])]) (H1 := [.box (.p ((eA eI 1 3) q)), .box (.p (eLang raw)), .box (.p (eLang (mdL l)))]) (E2 := (31, none, .agg [.own 3, .own 4]) :: (30, none, .p (eLang (mdL l))) :: [(2, none, .p ((eL eI 1 0) n)), (3, none, vstr s), (5, none, vint .i64 m), (7, none, .ref 0 []), (10, none, .ref 1 []), (13, none, vbool true), (14, none, .ref 2 [])]) (H2 := [.box (.p ((eA eI 1 3) q)), .box (.p (eLang raw)), .box (.p (eLang (mdL l)))] ++ ansT (mdL l) (iAn l q)) (E' := [(2, none, .p ((eL eI 1 0) n)), (3, none, vstr s), (5, none, vint .i64 m), (7, none, .ref 0 []), (10, none, .ref 1 []), (13, none, vbool true), (14, none, .ref 2 []), (16, none, .ref 6 [])]) (H' := ([.box (.p ((eA eI 1 3) q)), .box (.p (eLang raw)), .box (.p (eLang (mdL l))), oL 4 eB 1 false (accc (mdL l)), .arr 22 1 (numc (mdL l)) (fun j => .own (bif Nat.beq j (iAn l q) then 5 else j + 8)), (rowI (mdL l) (iAn l q)), .box (.agg [.own 3, .own 4]), .free] ++ restC (mdL l) (iAn l q))) (vc1 := []) (vc2 := []) (f := 18) (t := 31) 1 (fun i_ => bif Nat.beq i_ 2 then 6 else 7) [] [] [30, 2, 3, 5, 7, 10, 13, 14] [2, 3, 5, 7, 10, 13, 14, 16] (by kernel_rfl) trivial (by rfl) (by rfl) (by rfl) (by rfl) (by kernel_rfl) (fun a_ w_ hS_ => cop_call rfl rfl (by kernel_rfl) rfl (by kernel_rfl) (iAn l q) hS_) (by kernel_rfl) trivial (tr_then (tr_join (α := Lang) (fun z : Lang => (fun (x : Lang) => [(2, none, .p ((eL eI 1 0) n)), (3, none, vstr s), (5, none, vint .i64 m), (10, none, .ref 1 []), (13, none, vbool true), (14, none, .ref 2 []), (16, none, .ref 3 [])]) z) (fun z : Lang => (fun (x : Lang) => [.box (.p ((eA eI 1 3) q)), .box (.p (eLang raw)), .box (.p (eLang (mdL l))), .box (.p (eLang x))]) z) (fun z : Lang => (fun (x : Lang) => (x = x)) z) ?_ ?_))))
 ·intro z hz
  revert z; intro x hz
  have hz : (x = x) := hz
  have hj6_0 := hz
  refine tr_seq (tr_seq (q_d [Pure Try.prog 18 [eLang raw] (.p (eLang (copyS raw))), ∀ j, j < 3 → ([eLang (mdL l), eLang x, eLang (copyS raw)] : List PV).getD j default = (fun i => eLang (([(mdL l), x, (copyS raw)]).getD i dLang)) j] [2, 3, 5, 13, 56, 57, 58] [.p ((eL eI 1 0) n), vstr s, vint .i64 m, vbool true, .p ((eL eLang 2 dLang) ([(mdL l), x, (copyS raw)])), vint .i64 ((([(mdL l), x, (copyS raw)]).length : Nat) : Int), vint .i64 0] [] [(3, .p (eLang (copyS raw))), (4, .p ((eL eLang 2 dLang) ([(mdL l), x, (copyS raw)])))] (al (copied_ok _) (al (lit_pv (e := eLang) (d := dLang) (l := [(mdL l), x, (copyS raw)])) (trivial))) (tr_then (tr_block (tr_loop (α := Nat) (fun z : Nat => (fun (k : Nat) => [(2, none, .p ((eL eI 1 0) n)), (3, none, vstr s), (5, none, vint .i64 m), (13, none, vbool true), (56, none, .p ((eL eLang 2 dLang) ([(mdL l), x, (copyS raw)]))), (57, none, vint .i64 ((([(mdL l), x, (copyS raw)]).length : Nat) : Int)), (58, none, vint .i64 (k : Int))]) z) (fun z : Nat => (fun (k : Nat) => [.box (.p ((eA eI 1 3) q)), .box (.p (eLang raw)), .box (.p (eLang (mdL l))), .box (.p (eLang x))]) z) (fun z : Nat => (fun (k : Nat) => (k ≤ 3)) z) (fun z : Nat => (fun (k : Nat) => 3 - k) z) 0 ?_ ?_ ?_)))))
  ·show (0 ≤ 3)
   ·omega
  ·intro A_ W_ hS
   replace hS := q_a (d := vint .i64 0) 58 (vint .i64 ((0 : Nat) : Int)) (eqD_int (by omega)) hS
   exact q_w [0, 1, 2, 3] [2, 3, 5, 13, 56, 57, 58] hS
  ·intro z hz
   revert z; intro k hz
   have hz : (k ≤ 3) := hz
   have hi0_0 := hz
   have hf1 := firstS_100 (yAn l x raw k) m
   have hf2 := firstS_100 (yAn l x raw k) 7
   have hlv := liveS_16 (yAn l x raw k)
   refine tr_seq (q_t [2, 3, 5, 13, 56, 57, 58, 59] [.p ((eL eI 1 0) n), vstr s, vint .i64 m, vbool true, .p ((eL eLang 2 dLang) ([(mdL l), x, (copyS raw)])), vint .i64 ((([(mdL l), x, (copyS raw)]).length : Nat) : Int), vint .i64 (k : Int), vbool (decide ((k : Int) < ((([(mdL l), x, (copyS raw)]).length : Nat) : Int)))] [.box (.p ((eA eI 1 3) q)), .box (.p (eLang raw)), .box (.p (eLang (mdL l))), .box (.p (eLang x))] (tr_then (tr_seq (q_e ((k : Int) < ((([(mdL l), x, (copyS raw)]).length : Nat) : Int)) (fun hc1 => ?_) (fun hc1 => ?_)))))
   ·refine tr_skip (tr_then (tr_seq (tr_block (tr_seq (q_r [(0 : Int) ≤ (k : Int), (k : Int) < (([(mdL l), x, (copyS raw)]).length : Int), (.p (eLang (([(mdL l), x, (copyS raw)]).getD k dLang)) : D) = .p (eLang (yAn l x raw k))] [2, 3, 5, 13, 18, 56, 57, 58] [.p ((eL eI 1 0) n), vstr s, vint .i64 m, vbool true, .ref 4 [], .p ((eL eLang 2 dLang) ([(mdL l), x, (copyS raw)])), vint .i64 ((([(mdL l), x, (copyS raw)]).length : Nat) : Int), vint .i64 (k : Int)] [.box (.p ((eA eI 1 3) q)), .box (.p (eLang raw)), .box (.p (eLang (mdL l))), .box (.p (eLang x)), .box (.p (eLang (yAn l x raw k)))] [(1, .p (eLang (yAn l x raw k)))] [] (al (by omega) (al (by omega) (al (by rfl) (trivial)))) (tr_then (tr_seq (tr_seq (q_d [Pure Try.prog 20 [eLang (yAn l x raw k)] (vint .i64 (check (yAn l x raw k))), Pure Try.prog 21 [eLang (yAn l x raw k)] (vint .i64 (check (yAn l x raw k))), (!((check (yAn l x raw k)) != (check (yAn l x raw k)))) = true → (!((check (yAn l x raw k)) != (check (yAn l x raw k)))) = true, (!((check (yAn l x raw k)) != (check (yAn l x raw k)))) = true → (Pure Try.prog 15 [(eL eI 1 0) n] (vstr (word n))), (!((check (yAn l x raw k)) != (check (yAn l x raw k)))) = true → (!((check (yAn l x raw k)) != (check (yAn l x raw k)))) = true, (!((check (yAn l x raw k)) != (check (yAn l x raw k)))) = true → (!((check (yAn l x raw k)) != (check (yAn l x raw k)))) = true, (!((check (yAn l x raw k)) != (check (yAn l x raw k)))) = true → (Pure Try.prog 16 [eLang (yAn l x raw k), .s (word n)] (vbool (has (yAn l x raw k) (word n)))), (!((check (yAn l x raw k)) != (check (yAn l x raw k)))) = true → (!((check (yAn l x raw k)) != (check (yAn l x raw k)))) = true, (!((check (yAn l x raw k)) != (check (yAn l x raw k)))) = true → (Pure Try.prog 15 [(eL eI 1 0) n] (vstr (word n))), (!((check (yAn l x raw k)) != (check (yAn l x raw k)))) = true → (!((check (yAn l x raw k)) != (check (yAn l x raw k)))) = true, (!((check (yAn l x raw k)) != (check (yAn l x raw k)))) = true → (!((check (yAn l x raw k)) != (check (yAn l x raw k)))) = true, (!((check (yAn l x raw k)) != (check (yAn l x raw k)))) = true → (Pure Try.prog 22 [eLang (yAn l x raw k), .s (word n)] (vbool (has (yAn l x raw k) (word n)))), (!((check (yAn l x raw k)) != (check (yAn l x raw k)))) = true → (!((check (yAn l x raw k)) != (check (yAn l x raw k)))) = true, (!((check (yAn l x raw k)) != (check (yAn l x raw k)))) = true → (!((check (yAn l x raw k)) != (check (yAn l x raw k)))) = true, (!((check (yAn l x raw k)) != (check (yAn l x raw k)))) = true → (!((check (yAn l x raw k)) != (check (yAn l x raw k)))) = true, (!(((check (yAn l x raw k)) != (check (yAn l x raw k))) || (!((has (yAn l x raw k) (word n)) == (has (yAn l x raw k) (word n)))))) = true → (!(((check (yAn l x raw k)) != (check (yAn l x raw k))) || (!((has (yAn l x raw k) (word n)) == (has (yAn l x raw k) (word n)))))) = true, (!(((check (yAn l x raw k)) != (check (yAn l x raw k))) || (!((has (yAn l x raw k) (word n)) == (has (yAn l x raw k) (word n)))))) = true → (!(((check (yAn l x raw k)) != (check (yAn l x raw k))) || (!((has (yAn l x raw k) (word n)) == (has (yAn l x raw k) (word n)))))) = true, (!(((check (yAn l x raw k)) != (check (yAn l x raw k))) || (!((has (yAn l x raw k) (word n)) == (has (yAn l x raw k) (word n)))))) = true → ((min (s.length : Int) 14) = (((min s.length 14) : Nat) : Int)), (!(((check (yAn l x raw k)) != (check (yAn l x raw k))) || (!((has (yAn l x raw k) (word n)) == (has (yAn l x raw k) (word n)))))) = true → (!(((check (yAn l x raw k)) != (check (yAn l x raw k))) || (!((has (yAn l x raw k) (word n)) == (has (yAn l x raw k) (word n)))))) = true, (!(((check (yAn l x raw k)) != (check (yAn l x raw k))) || (!((has (yAn l x raw k) (word n)) == (has (yAn l x raw k) (word n)))))) = true → (!(((check (yAn l x raw k)) != (check (yAn l x raw k))) || (!((has (yAn l x raw k) (word n)) == (has (yAn l x raw k) (word n)))))) = true, (!(((check (yAn l x raw k)) != (check (yAn l x raw k))) || (!((has (yAn l x raw k) (word n)) == (has (yAn l x raw k) (word n)))))) = true → ((0 : Int) ≤ 0), (!(((check (yAn l x raw k)) != (check (yAn l x raw k))) || (!((has (yAn l x raw k) (word n)) == (has (yAn l x raw k) (word n)))))) = true → (0 ≤ (((min s.length 14) : Nat) : Int)), (!(((check (yAn l x raw k)) != (check (yAn l x raw k))) || (!((has (yAn l x raw k) (word n)) == (has (yAn l x raw k) (word n)))))) = true → ((((min s.length 14) : Nat) : Int) ≤ (s.length : Int)), (!(((check (yAn l x raw k)) != (check (yAn l x raw k))) || (!((has (yAn l x raw k) (word n)) == (has (yAn l x raw k) (word n)))))) = true → (((s.drop 0).take ((min s.length 14) - 0)) = (s.take (min s.length 14))), (!(((check (yAn l x raw k)) != (check (yAn l x raw k))) || (!((has (yAn l x raw k) (word n)) == (has (yAn l x raw k) (word n)))))) = true → (!(((check (yAn l x raw k)) != (check (yAn l x raw k))) || (!((has (yAn l x raw k) (word n)) == (has (yAn l x raw k) (word n)))))) = true, (!(((check (yAn l x raw k)) != (check (yAn l x raw k))) || (!((has (yAn l x raw k) (word n)) == (has (yAn l x raw k) (word n)))))) = true → (!(((check (yAn l x raw k)) != (check (yAn l x raw k))) || (!((has (yAn l x raw k) (word n)) == (has (yAn l x raw k) (word n)))))) = true, (!(((check (yAn l x raw k)) != (check (yAn l x raw k))) || (!((has (yAn l x raw k) (word n)) == (has (yAn l x raw k) (word n)))))) = true → (Pure Try.prog 16 [eLang (yAn l x raw k), .s (s.take (min s.length 14))] (vbool (has (yAn l x raw k) (s.take (min s.length 14))))), (!(((check (yAn l x raw k)) != (check (yAn l x raw k))) || (!((has (yAn l x raw k) (word n)) == (has (yAn l x raw k) (word n)))))) = true → (!(((check (yAn l x raw k)) != (check (yAn l x raw k))) || (!((has (yAn l x raw k) (word n)) == (has (yAn l x raw k) (word n)))))) = true, (!(((check (yAn l x raw k)) != (check (yAn l x raw k))) || (!((has (yAn l x raw k) (word n)) == (has (yAn l x raw k) (word n)))))) = true → (!(((check (yAn l x raw k)) != (check (yAn l x raw k))) || (!((has (yAn l x raw k) (word n)) == (has (yAn l x raw k) (word n)))))) = true, (!(((check (yAn l x raw k)) != (check (yAn l x raw k))) || (!((has (yAn l x raw k) (word n)) == (has (yAn l x raw k) (word n)))))) = true → ((min (s.length : Int) 14) = (((min s.length 14) : Nat) : Int)), (!(((check (yAn l x raw k)) != (check (yAn l x raw k))) || (!((has (yAn l x raw k) (word n)) == (has (yAn l x raw k) (word n)))))) = true → (!(((check (yAn l x raw k)) != (check (yAn l x raw k))) || (!((has (yAn l x raw k) (word n)) == (has (yAn l x raw k) (word n)))))) = true, (!(((check (yAn l x raw k)) != (check (yAn l x raw k))) || (!((has (yAn l x raw k) (word n)) == (has (yAn l x raw k) (word n)))))) = true → (!(((check (yAn l x raw k)) != (check (yAn l x raw k))) || (!((has (yAn l x raw k) (word n)) == (has (yAn l x raw k) (word n)))))) = true, (!(((check (yAn l x raw k)) != (check (yAn l x raw k))) || (!((has (yAn l x raw k) (word n)) == (has (yAn l x raw k) (word n)))))) = true → ((0 : Int) ≤ 0), (!(((check (yAn l x raw k)) != (check (yAn l x raw k))) || (!((has (yAn l x raw k) (word n)) == (has (yAn l x raw k) (word n)))))) = true → (0 ≤ (((min s.length 14) : Nat) : Int)), (!(((check (yAn l x raw k)) != (check (yAn l x raw k))) || (!((has (yAn l x raw k) (word n)) == (has (yAn l x raw k) (word n)))))) = true → ((((min s.length 14) : Nat) : Int) ≤ (s.length : Int)), (!(((check (yAn l x raw k)) != (check (yAn l x raw k))) || (!((has (yAn l x raw k) (word n)) == (has (yAn l x raw k) (word n)))))) = true → (((s.drop 0).take ((min s.length 14) - 0)) = (s.take (min s.length 14))), (!(((check (yAn l x raw k)) != (check (yAn l x raw k))) || (!((has (yAn l x raw k) (word n)) == (has (yAn l x raw k) (word n)))))) = true → (!(((check (yAn l x raw k)) != (check (yAn l x raw k))) || (!((has (yAn l x raw k) (word n)) == (has (yAn l x raw k) (word n)))))) = true, (!(((check (yAn l x raw k)) != (check (yAn l x raw k))) || (!((has (yAn l x raw k) (word n)) == (has (yAn l x raw k) (word n)))))) = true → (!(((check (yAn l x raw k)) != (check (yAn l x raw k))) || (!((has (yAn l x raw k) (word n)) == (has (yAn l x raw k) (word n)))))) = true, (!(((check (yAn l x raw k)) != (check (yAn l x raw k))) || (!((has (yAn l x raw k) (word n)) == (has (yAn l x raw k) (word n)))))) = true → (Pure Try.prog 22 [eLang (yAn l x raw k), .s (s.take (min s.length 14))] (vbool (has (yAn l x raw k) (s.take (min s.length 14))))), (!(((check (yAn l x raw k)) != (check (yAn l x raw k))) || (!((has (yAn l x raw k) (word n)) == (has (yAn l x raw k) (word n)))))) = true → (!(((check (yAn l x raw k)) != (check (yAn l x raw k))) || (!((has (yAn l x raw k) (word n)) == (has (yAn l x raw k) (word n)))))) = true, (!(((check (yAn l x raw k)) != (check (yAn l x raw k))) || (!((has (yAn l x raw k) (word n)) == (has (yAn l x raw k) (word n)))))) = true → (!(((check (yAn l x raw k)) != (check (yAn l x raw k))) || (!((has (yAn l x raw k) (word n)) == (has (yAn l x raw k) (word n)))))) = true, (!(((check (yAn l x raw k)) != (check (yAn l x raw k))) || (!((has (yAn l x raw k) (word n)) == (has (yAn l x raw k) (word n)))))) = true → (!(((check (yAn l x raw k)) != (check (yAn l x raw k))) || (!((has (yAn l x raw k) (word n)) == (has (yAn l x raw k) (word n)))))) = true] [2, 3, 5, 13, 18, 56, 57, 58, 94] [.p ((eL eI 1 0) n), vstr s, vint .i64 m, vbool true, .ref 4 [], .p ((eL eLang 2 dLang) ([(mdL l), x, (copyS raw)])), vint .i64 ((([(mdL l), x, (copyS raw)]).length : Nat) : Int), vint .i64 (k : Int), vbool ((((check (yAn l x raw k)) != (check (yAn l x raw k))) || (!((has (yAn l x raw k) (word n)) == (has (yAn l x raw k) (word n))))) || (!((has (yAn l x raw k) (s.take (min s.length 14))) == (has (yAn l x raw k) (s.take (min s.length 14))))))] [(21, vint .i64 (((min s.length 14) : Nat) : Int)), (22, vstr (s.take (min s.length 14))), (28, vint .i64 (((min s.length 14) : Nat) : Int)), (29, vstr (s.take (min s.length 14)))] [(1, vint .i64 (check (yAn l x raw k))), (3, vint .i64 (check (yAn l x raw k))), (8, vstr (word n)), (9, vbool (has (yAn l x raw k) (word n))), (12, vstr (word n)), (13, vbool (has (yAn l x raw k) (word n))), (23, vbool (has (yAn l x raw k) (s.take (min s.length 14)))), (30, vbool (has (yAn l x raw k) (s.take (min s.length 14))))] (al (check_ok _) (al (refCheck_ok _) (al id (al (by intro _; exact word_ok _ (by omega)) (al id (al id (al (by intro _; exact has_ok _ _ (by omega)) (al id (al (by intro _; exact word_ok _ (by omega)) (al id (al id (al (by intro _; exact refHas_ok _ _ (by omega)) (al id (al id (al id (al id (al id (al (by intro _; omega) (al id (al id (al (by omega) (al (by omega) (al (by omega) (al (by intro _; rfl) (al id (al id (al (by intro _; exact has_ok _ _ (by (simp_all; omega))) (al id (al id (al (by intro _; omega) (al id (al id (al (by omega) (al (by omega) (al (by omega) (al (by intro _; rfl) (al id (al id (al (by intro _; exact refHas_ok _ _ (by (simp_all; omega))) (al id (al id (al id (trivial))))))))))))))))))))))))))))))))))))))))))) (tr_then (q_c ((((check (yAn l x raw k)) != (check (yAn l x raw k))) || (!((has (yAn l x raw k) (word n)) == (has (yAn l x raw k) (word n))))) || (!((has (yAn l x raw k) (s.take (min s.length 14))) == (has (yAn l x raw k) (s.take (min s.length 14)))))) ((((check (yAn l x raw k)) ≠ (check (yAn l x raw k))) ∨ (¬ (has (yAn l x raw k) (word n)) = (has (yAn l x raw k) (word n)))) ∨ (¬ (has (yAn l x raw k) (s.take (min s.length 14))) = (has (yAn l x raw k) (s.take (min s.length 14))))) (fun hc2 => (absurd hc2 (by simp))) (fun hc2 => ?_))))))))))))
    ·refine tr_skip (tr_then (tr_seq (tr_seq (q_d [Pure Try.prog 14 [eLang (yAn l x raw k), .v (.int .i64 m)] (.p ((eL eS 1 []) (firstS (yAn l x raw k) m))), Pure Try.prog 24 [eLang (yAn l x raw k), .v (.int .i64 m)] (.p ((eL eS 1 []) (firstS (yAn l x raw k) m))), Pure Try.prog 23 [(eL eS 1 []) (firstS (yAn l x raw k) m), (eL eS 1 []) (firstS (yAn l x raw k) m)] (vbool (decide ((firstS (yAn l x raw k) m) = (firstS (yAn l x raw k) m)))), (!(!(decide ((firstS (yAn l x raw k) m) = (firstS (yAn l x raw k) m))))) = true → (!(!(decide ((firstS (yAn l x raw k) m) = (firstS (yAn l x raw k) m))))) = true, (!(!(decide ((firstS (yAn l x raw k) m) = (firstS (yAn l x raw k) m))))) = true → (Pure Try.prog 14 [eLang (yAn l x raw k), .v (.int .i64 7)] (.p ((eL eS 1 []) (firstS (yAn l x raw k) 7)))), (!(!(decide ((firstS (yAn l x raw k) m) = (firstS (yAn l x raw k) m))))) = true → (!(!(decide ((firstS (yAn l x raw k) m) = (firstS (yAn l x raw k) m))))) = true, (!(!(decide ((firstS (yAn l x raw k) m) = (firstS (yAn l x raw k) m))))) = true → (Pure Try.prog 24 [eLang (yAn l x raw k), .v (.int .i64 7)] (.p ((eL eS 1 []) (firstS (yAn l x raw k) 7)))), (!(!(decide ((firstS (yAn l x raw k) m) = (firstS (yAn l x raw k) m))))) = true → (!(!(decide ((firstS (yAn l x raw k) m) = (firstS (yAn l x raw k) m))))) = true, (!(!(decide ((firstS (yAn l x raw k) m) = (firstS (yAn l x raw k) m))))) = true → (!(!(decide ((firstS (yAn l x raw k) m) = (firstS (yAn l x raw k) m))))) = true, (!(!(decide ((firstS (yAn l x raw k) m) = (firstS (yAn l x raw k) m))))) = true → (Pure Try.prog 23 [(eL eS 1 []) (firstS (yAn l x raw k) 7), (eL eS 1 []) (firstS (yAn l x raw k) 7)] (vbool (decide ((firstS (yAn l x raw k) 7) = (firstS (yAn l x raw k) 7))))), (!(!(decide ((firstS (yAn l x raw k) m) = (firstS (yAn l x raw k) m))))) = true → (!(!(decide ((firstS (yAn l x raw k) m) = (firstS (yAn l x raw k) m))))) = true, (!(!(decide ((firstS (yAn l x raw k) m) = (firstS (yAn l x raw k) m))))) = true → (!(!(decide ((firstS (yAn l x raw k) m) = (firstS (yAn l x raw k) m))))) = true] [2, 3, 5, 13, 18, 56, 57, 58, 110] [.p ((eL eI 1 0) n), vstr s, vint .i64 m, vbool true, .ref 4 [], .p ((eL eLang 2 dLang) ([(mdL l), x, (copyS raw)])), vint .i64 ((([(mdL l), x, (copyS raw)]).length : Nat) : Int), vint .i64 (k : Int), vbool ((!(decide ((firstS (yAn l x raw k) m) = (firstS (yAn l x raw k) m)))) || (!(decide ((firstS (yAn l x raw k) 7) = (firstS (yAn l x raw k) 7)))))] [] [(2, .p ((eL eS 1 []) (firstS (yAn l x raw k) m))), (5, .p ((eL eS 1 []) (firstS (yAn l x raw k) m))), (6, vbool (decide ((firstS (yAn l x raw k) m) = (firstS (yAn l x raw k) m)))), (10, .p ((eL eS 1 []) (firstS (yAn l x raw k) 7))), (12, .p ((eL eS 1 []) (firstS (yAn l x raw k) 7))), (13, vbool (decide ((firstS (yAn l x raw k) 7) = (firstS (yAn l x raw k) 7))))] (al (First_ok _ _) (al (refFirst_ok _ _) (al (sameTexts_ok _ _ (by omega)) (al id (al (by intro _; exact First_ok _ _) (al id (al (by intro _; exact refFirst_ok _ _) (al id (al id (al (by intro _; exact sameTexts_ok _ _ (by omega)) (al id (al id (trivial))))))))))))) (tr_then (q_c ((!(decide ((firstS (yAn l x raw k) m) = (firstS (yAn l x raw k) m)))) || (!(decide ((firstS (yAn l x raw k) 7) = (firstS (yAn l x raw k) 7))))) (((decide ((firstS (yAn l x raw k) m) = (firstS (yAn l x raw k) m))) = false) ∨ ((decide ((firstS (yAn l x raw k) 7) = (firstS (yAn l x raw k) 7))) = false)) (fun hc3 => (absurd hc3 (by simp))) (fun hc3 => ?_)))))))
     ·refine tr_skip (tr_then (tr_seq (q_d [Pure Try.prog 25 [eLang (yAn l x raw k)] (.p ((eL eB 1 false) (liveS (yAn l x raw k)))), Pure Try.prog 26 [eLang (yAn l x raw k)] (.p ((eL eB 1 false) (liveS (yAn l x raw k))))] [2, 3, 5, 13, 19, 20, 56, 57, 58] [.p ((eL eI 1 0) n), vstr s, vint .i64 m, vbool true, .p ((eL eB 1 false) (liveS (yAn l x raw k))), .p ((eL eB 1 false) (liveS (yAn l x raw k))), .p ((eL eLang 2 dLang) ([(mdL l), x, (copyS raw)])), vint .i64 ((([(mdL l), x, (copyS raw)]).length : Nat) : Int), vint .i64 (k : Int)] [] [(1, .p ((eL eB 1 false) (liveS (yAn l x raw k)))), (3, .p ((eL eB 1 false) (liveS (yAn l x raw k))))] (al (live_ok _) (al (by rw [← liveR_eq]; exact refLive_ok _) (trivial))) (tr_then (tr_seq (tr_seq (q_m [2, 3, 5, 13, 19, 20, 56, 57, 58, 119] [.p ((eL eI 1 0) n), vstr s, vint .i64 m, vbool true, .p ((eL eB 1 false) (liveS (yAn l x raw k))), .p ((eL eB 1 false) (liveS (yAn l x raw k))), .p ((eL eLang 2 dLang) ([(mdL l), x, (copyS raw)])), vint .i64 ((([(mdL l), x, (copyS raw)]).length : Nat) : Int), vint .i64 (k : Int), vbool ((((liveS (yAn l x raw k)).length : Nat) : Int) != (((liveS (yAn l x raw k)).length : Nat) : Int))] (tr_then (q_c ((((liveS (yAn l x raw k)).length : Nat) : Int) != (((liveS (yAn l x raw k)).length : Nat) : Int)) ((((liveS (yAn l x raw k)).length : Nat) : Int) ≠ (((liveS (yAn l x raw k)).length : Nat) : Int)) (fun hc4 => (absurd hc4 (by simp))) (fun hc4 => ?_))))))))))
      ·refine tr_skip (tr_then (tr_seq (q_m [2, 3, 5, 13, 19, 20, 56, 57, 58, 121, 122] [.p ((eL eI 1 0) n), vstr s, vint .i64 m, vbool true, .p ((eL eB 1 false) (liveS (yAn l x raw k))), .p ((eL eB 1 false) (liveS (yAn l x raw k))), .p ((eL eLang 2 dLang) ([(mdL l), x, (copyS raw)])), vint .i64 ((([(mdL l), x, (copyS raw)]).length : Nat) : Int), vint .i64 (k : Int), vint .i64 (((liveS (yAn l x raw k)).length : Nat) : Int), vint .i64 0] (tr_then (tr_block (tr_loop (α := Nat) (fun z : Nat => (fun (j : Nat) => [(2, none, .p ((eL eI 1 0) n)), (3, none, vstr s), (5, none, vint .i64 m), (13, none, vbool true), (19, none, .p ((eL eB 1 false) (liveS (yAn l x raw k)))), (20, none, .p ((eL eB 1 false) (liveS (yAn l x raw k)))), (56, none, .p ((eL eLang 2 dLang) ([(mdL l), x, (copyS raw)]))), (57, none, vint .i64 ((([(mdL l), x, (copyS raw)]).length : Nat) : Int)), (58, none, vint .i64 (k : Int)), (121, none, vint .i64 (((liveS (yAn l x raw k)).length : Nat) : Int)), (122, none, vint .i64 (j : Int))]) z) (fun z : Nat => (fun (j : Nat) => [.box (.p ((eA eI 1 3) q)), .box (.p (eLang raw)), .box (.p (eLang (mdL l))), .box (.p (eLang x)), .box (.p (eLang (yAn l x raw k)))]) z) (fun z : Nat => (fun (j : Nat) => (j ≤ (liveS (yAn l x raw k)).length)) z) (fun z : Nat => (fun (j : Nat) => (liveS (yAn l x raw k)).length - j) z) 0 ?_ ?_ ?_))))))
       ·show (0 ≤ (liveS (yAn l x raw k)).length)
        ·omega
       ·intro A_ W_ hS
        replace hS := q_a (d := vint .i64 0) 122 (vint .i64 ((0 : Nat) : Int)) (eqD_int (by omega)) hS
        exact q_w [0, 1, 2, 3, 4] [2, 3, 5, 13, 19, 20, 56, 57, 58, 121, 122] hS
       ·intro z hz
        revert z; intro j hz
        have hz : (j ≤ (liveS (yAn l x raw k)).length) := hz
        have hi1_0 := hz
        refine tr_seq (q_t [2, 3, 5, 13, 19, 20, 56, 57, 58, 121, 122, 123] [.p ((eL eI 1 0) n), vstr s, vint .i64 m, vbool true, .p ((eL eB 1 false) (liveS (yAn l x raw k))), .p ((eL eB 1 false) (liveS (yAn l x raw k))), .p ((eL eLang 2 dLang) ([(mdL l), x, (copyS raw)])), vint .i64 ((([(mdL l), x, (copyS raw)]).length : Nat) : Int), vint .i64 (k : Int), vint .i64 (((liveS (yAn l x raw k)).length : Nat) : Int), vint .i64 (j : Int), vbool (decide ((j : Int) < (((liveS (yAn l x raw k)).length : Nat) : Int)))] [.box (.p ((eA eI 1 3) q)), .box (.p (eLang raw)), .box (.p (eLang (mdL l))), .box (.p (eLang x)), .box (.p (eLang (yAn l x raw k)))] (tr_then (tr_seq (q_e ((j : Int) < (((liveS (yAn l x raw k)).length : Nat) : Int)) (fun hc5 => ?_) (fun hc5 => ?_)))))
        ·refine tr_skip (tr_then (tr_seq (tr_block (tr_seq (q_m [2, 3, 5, 13, 19, 20, 21, 56, 57, 58, 121, 122] [.p ((eL eI 1 0) n), vstr s, vint .i64 m, vbool true, .p ((eL eB 1 false) (liveS (yAn l x raw k))), .p ((eL eB 1 false) (liveS (yAn l x raw k))), vint .i64 (j : Int), .p ((eL eLang 2 dLang) ([(mdL l), x, (copyS raw)])), vint .i64 ((([(mdL l), x, (copyS raw)]).length : Nat) : Int), vint .i64 (k : Int), vint .i64 (((liveS (yAn l x raw k)).length : Nat) : Int), vint .i64 (j : Int)] (tr_then (tr_seq (q_d [(0 : Int) ≤ (j : Int), (j : Int) < ((liveS (yAn l x raw k)).length : Int), (0 : Int) ≤ (j : Int), (j : Int) < ((liveS (yAn l x raw k)).length : Int)] [2, 3, 5, 13, 19, 20, 56, 57, 58, 121, 122, 133] [.p ((eL eI 1 0) n), vstr s, vint .i64 m, vbool true, .p ((eL eB 1 false) (liveS (yAn l x raw k))), .p ((eL eB 1 false) (liveS (yAn l x raw k))), .p ((eL eLang 2 dLang) ([(mdL l), x, (copyS raw)])), vint .i64 ((([(mdL l), x, (copyS raw)]).length : Nat) : Int), vint .i64 (k : Int), vint .i64 (((liveS (yAn l x raw k)).length : Nat) : Int), vint .i64 (j : Int), vbool (!(((liveS (yAn l x raw k)).getD j false) == ((liveS (yAn l x raw k)).getD j false)))] [] [] (al (by omega) (al (by omega) (al (by omega) (al (by omega) (trivial))))) (tr_then (q_c (!(((liveS (yAn l x raw k)).getD j false) == ((liveS (yAn l x raw k)).getD j false))) (¬ ((liveS (yAn l x raw k)).getD j false) = ((liveS (yAn l x raw k)).getD j false)) (fun hc6 => (absurd hc6 (by simp))) (fun hc6 => ?_)))))))))))
         ·refine tr_skip (in_n (tr_then (q_k [(IntKind.wrap .i64 ((j : Int) + 1)) = (((j + 1) : Nat) : Int)] [2, 3, 5, 13, 19, 20, 56, 57, 58, 121, 122] [.p ((eL eI 1 0) n), vstr s, vint .i64 m, vbool true, .p ((eL eB 1 false) (liveS (yAn l x raw k))), .p ((eL eB 1 false) (liveS (yAn l x raw k))), .p ((eL eLang 2 dLang) ([(mdL l), x, (copyS raw)])), vint .i64 ((([(mdL l), x, (copyS raw)]).length : Nat) : Int), vint .i64 (k : Int), vint .i64 (((liveS (yAn l x raw k)).length : Nat) : Int), vint .i64 (((j + 1) : Nat) : Int)] [(0, vint .i64 (((j + 1) : Nat) : Int))] [] (al (wr64 (by omega) (by omega) (by omega)) (trivial)) (lp_end (j + 1) ?_ ?_ ?_))))
          ·show ((j + 1) ≤ (liveS (yAn l x raw k)).length)
           ·omega
          ·show (liveS (yAn l x raw k)).length - (j + 1) < (liveS (yAn l x raw k)).length - j
           omega
          ·intro A_ W_ hS
           exact q_w [0, 1, 2, 3, 4] [2, 3, 5, 13, 19, 20, 56, 57, 58, 121, 122] hS
        ·refine tr_exit (th_e (th_e (in_hit (in_n (tr_then (q_k [(IntKind.wrap .i64 ((k : Int) + 1)) = (((k + 1) : Nat) : Int)] [2, 3, 5, 13, 56, 57, 58] [.p ((eL eI 1 0) n), vstr s, vint .i64 m, vbool true, .p ((eL eLang 2 dLang) ([(mdL l), x, (copyS raw)])), vint .i64 ((([(mdL l), x, (copyS raw)]).length : Nat) : Int), vint .i64 (((k + 1) : Nat) : Int)] [(0, vint .i64 (((k + 1) : Nat) : Int))] [] (al (wr64 (by omega) (by omega) (by omega)) (trivial)) (lp_end (k + 1) ?_ ?_ ?_)))))))
         ·show ((k + 1) ≤ 3)
          ·(simp_all; omega)
         ·show 3 - (k + 1) < 3 - k
          simp only [List.length_cons, List.length_nil] at hc1; omega
         ·intro A_ W_ hS
          exact q_w [0, 1, 2, 3] [2, 3, 5, 13, 56, 57, 58] hS
   ·exact tr_exit (th_e (th_e (in_hit (tr_then (tr_seq (q_m [12] [vbool true] (tr_then (tr_pre (E' := [(12, none, vbool true)]) (H' := []) (fun _ _ h => q_w [] [12] h) (q_z [vbool true] (fun _ _ h => h))))))))))
 ·refine tr_seq (q_t [2, 3, 5, 7, 10, 13, 14, 16, 35] [.p ((eL eI 1 0) n), vstr s, vint .i64 m, .ref 0 [], .ref 1 [], vbool true, .ref 2 [], .ref 6 [], vbool (decide (0 < (((numc (mdL l)) : Nat) : Int)))] ([.box (.p ((eA eI 1 3) q)), .box (.p (eLang raw)), .box (.p (eLang (mdL l))), oL 4 eB 1 false (accc (mdL l)), .arr 22 1 (numc (mdL l)) (fun j => .own (bif Nat.beq j (iAn l q) then 5 else j + 8)), (rowI (mdL l) (iAn l q)), .box (.agg [.own 3, .own 4]), .free] ++ restC (mdL l) (iAn l q)) (tr_then (q_e (0 < (((numc (mdL l)) : Nat) : Int)) (fun hc7 => ?_) (fun hc7 => ?_))))
  ·have hn0 : 0 < numc (mdL l) := by omega
   have hia : (iAn l q) < numc (mdL l) := by unfold iAn; have := Int.emod_nonneg (q 0) (show ((numc (mdL l) : Nat) : Int) ≠ 0 by omega); have := Int.emod_lt_of_pos (q 0) (show (0 : Int) < ((numc (mdL l) : Nat) : Int) by omega); omega
   refine tr_pre (fun _ _ => sl_obj (o := rowI (mdL l) (iAn l q)) 5 (oL 3 eI 1 0 (rowc (mdL l) (iAn l q))) (by kernel_rfl) (by unfold rowI; rw [if_pos hia])) (tr_dx0 (fs := [(1, 7, [], [6, 7]), (3, 7, [], [0, 7]), (5, 7, [], [6, 7]), (6, 7, [], [4, 7]), (8, 7, [], [4, 7]), (9, 7, [], [4, 7]), (11, 7, [], [0, 7]), (14, 7, [], [0, 7]), (15, 7, [], [5, 7]), (16, 7, [5], [5, 7])]) (vc := [(0 : Int) ≤ 0, 0 < (3 : Int), 0 < 3, Pure Try.prog 19 [.v (.int .i64 (q 0)), .v (.int .i64 ((numc (mdL l) : Nat) : Int))] (vint .i64 ((iAn l q : Nat) : Int)), (0 : Int) ≤ ((iAn l q : Nat) : Int), ((iAn l q : Nat) : Int) < ((numc (mdL l) : Nat) : Int), iAn l q < numc (mdL l), eqD (.own (bif Nat.beq (iAn l q) (iAn l q) then 5 else iAn l q + 8)) (.own 5), (0 : Int) ≤ 1, 1 < (3 : Int), 1 < 3, Pure Try.prog 19 [.v (.int .i64 (q 1)), .v (.int .i64 37)] (vint .i64 ((jAn q : Nat) : Int)), (0 : Int) ≤ 2, 2 < (3 : Int), 2 < 3, (0 : Int) ≤ ((jAn q : Nat) : Int), ((jAn q : Nat) : Int) < (((rowc (mdL l) (iAn l q)).length : Nat) : Int), jAn q < (rowc (mdL l) (iAn l q)).length]) (E' := [(2, none, .p ((eL eI 1 0) n)), (3, none, vstr s), (5, none, vint .i64 m), (10, none, .ref 1 []), (13, none, vbool true), (14, none, .ref 2 []), (16, none, .ref 6 [])]) (H' := ([.box (.p ((eA eI 1 3) q)), .box (.p (eLang raw)), .box (.p (eLang (mdL l))), oL 4 eB 1 false (accc (mdL l)), .arr 22 1 (numc (mdL l)) (fun j => .own (bif Nat.beq j (iAn l q) then 5 else j + 8)), .arr 3 1 ((rowc (mdL l) (iAn l q)).length) (upd (fun i => .p (eI ((rowc (mdL l) (iAn l q)).getD i 0))) (jAn q) (vint .i64 (q 2))), .box (.agg [.own 3, .own 4]), .free] ++ restC (mdL l) (iAn l q))) [(9, .own 5)] [(7, vint .i64 (((iAn l q) : Nat) : Int)), (12, vint .i64 ((jAn q : Nat) : Int))] [2, 3, 5, 10, 13, 14, 16] (by kernel_rfl) (by kernel_rfl) (by kernel_rfl) (by kernel_rfl) ?_ ?_)
   ·have e0 : ((iAn l q : Nat) : Int) = q 0 % ((numc (mdL l) : Nat) : Int) := Int.toNat_of_nonneg (Int.emod_nonneg _ (by omega))
    have e1 : ((jAn q : Nat) : Int) = q 1 % 37 := Int.toNat_of_nonneg (Int.emod_nonneg _ (by omega))
    have hn18 : numc (mdL l) ≤ 18 := Nat.min_le_right _ _
    have hnN : numc (mdL l) ≤ (mdL l).Next.length := Nat.min_le_left _ _
    have hj : jAn q < 37 := by have := Int.emod_lt_of_pos (q 1) (show (0 : Int) < 37 by omega); omega
    have hrw : ((mdL l).Next.getD (iAn l q) []).length = 37 := (langS_rows (madeP l)).2 _ (Nat.lt_of_lt_of_le hia hnN)
    have hr37 : (rowc (mdL l) (iAn l q)).length = 37 := by unfold rowc; rw [List.length_take, hrw]; rfl
    refine al (by omega) (al (by omega) (al (by omega) (al (by rw [e0]; exact mod_ok _ _ (by omega) (by omega)) (al (by omega) (al (by omega) (al hia (al (by rw [Nat.beq_refl]; exact eqD_of rfl) (al (by omega) (al (by omega) (al (by omega) (al (by rw [e1]; exact mod_ok _ _ (by omega) (by omega)) (al (by omega) (al (by omega) (al (by omega) (al (by omega) (al (by rw [hr37]; omega) (al (by rw [hr37]; omega) trivial)))))))))))))))))
   refine nm_pre (E' := [(2, none, .p ((eL eI 1 0) n)), (3, none, vstr s), (5, none, vint .i64 m), (10, none, .ref 1 []), (13, none, vbool true), (14, none, .ref 2 []), (16, none, .ref 6 [])]) (H' := ([.box (.p ((eA eI 1 3) q)), .box (.p (eLang raw)), .box (.p (eLang (mdL l))), oL 4 eB 1 false (accc (mdL l)), .arr 22 1 (numc (mdL l)) (fun j => .own (bif Nat.beq j (iAn l q) then 5 else j + 8)), oL 3 eI 1 0 ((rowc (mdL l) (iAn l q)).set (jAn q) (q 2)), .box (.agg [.own 3, .own 4]), .free] ++ restC (mdL l) (iAn l q))) (fun _ _ => sl_arr (n := (rowc (mdL l) (iAn l q)).length) (n' := ((rowc (mdL l) (iAn l q)).set (jAn q) (q 2)).length) (f := upd (fun i => .p (eI ((rowc (mdL l) (iAn l q)).getD i 0))) (jAn q) (vint .i64 (q 2))) 5 (fun i => .p (eI (((rowc (mdL l) (iAn l q)).set (jAn q) (q 2)).getD i 0))) (by kernel_rfl) (by simp) (by exact setN)) (nm_pre (E' := [(2, none, .p ((eL eI 1 0) n)), (3, none, vstr s), (5, none, vint .i64 m), (10, none, .ref 1 []), (13, none, vbool true), (14, none, .ref 2 []), (16, none, .ref 3 [])]) (H' := [.box (.p ((eA eI 1 3) q)), .box (.p (eLang raw)), .box (.p (eLang (mdL l))), .box (.p (eLang (oddL (mdL l) (iAn l q) ((rowc (mdL l) (iAn l q)).set (jAn q) (q 2)))))]) (fun _ _ => ans_pub (l := (mdL l)) (i0 := (iAn l q)) (R := oL 3 eI 1 0 ((rowc (mdL l) (iAn l q)).set (jAn q) (q 2))) rfl (show flat (.box (.p _)) from ⟨_, rfl⟩) (show flat (.box (.p _)) from ⟨_, rfl⟩) (show flat (.box (.p _)) from ⟨_, rfl⟩) ((rowc (mdL l) (iAn l q)).set (jAn q) (q 2)) (fun _ => rfl) (fun t_ g_ d_ h_ => match t_, h_ with | 0, h_ => by cases h_ | 1, h_ => by cases h_ | 2, h_ => by cases h_; exact ⟨rfl, _, rfl, .inl ⟨rfl, .inl ⟨_, rfl⟩⟩⟩ | 3, h_ => by cases h_; exact ⟨rfl, _, rfl, .inl ⟨rfl, .inl ⟨_, rfl⟩⟩⟩ | 4, h_ => by cases h_ | 5, h_ => by cases h_; exact ⟨rfl, _, rfl, .inl ⟨rfl, .inl ⟨_, rfl⟩⟩⟩ | 6, h_ => by cases h_ | 7, h_ => by cases h_ | 8, h_ => by cases h_ | 9, h_ => by cases h_ | 10, h_ => by cases h_; exact ⟨rfl, _, rfl, .inl ⟨rfl, .inr (.inr (.inl rfl))⟩⟩ | 11, h_ => by cases h_ | 12, h_ => by cases h_ | 13, h_ => by cases h_; exact ⟨rfl, _, rfl, .inl ⟨rfl, .inl ⟨_, rfl⟩⟩⟩ | 14, h_ => by cases h_; exact ⟨rfl, _, rfl, .inl ⟨rfl, .inr (.inr (.inr rfl))⟩⟩ | 15, h_ => by cases h_ | 16, h_ => by cases h_; exact ⟨rfl, _, rfl, .inr ⟨rfl, rfl⟩⟩ | n_ + 17, h_ => by cases h_)) (jn_end (oddL (mdL l) (iAn l q) ((rowc (mdL l) (iAn l q)).set (jAn q) (q 2))) ?_ ?_))
   ·show ((oddL (mdL l) (iAn l q) ((rowc (mdL l) (iAn l q)).set (jAn q) (q 2))) = (oddL (mdL l) (iAn l q) ((rowc (mdL l) (iAn l q)).set (jAn q) (q 2))))
    ·(simp; done)
   ·intro A_ W_ hS
    exact q_w [0, 1, 2, 3] [2, 3, 5, 10, 13, 14, 16] hS
  ·refine tr_skip (nm_pre (E' := [(2, none, .p ((eL eI 1 0) n)), (3, none, vstr s), (5, none, vint .i64 m), (10, none, .ref 1 []), (13, none, vbool true), (14, none, .ref 2 []), (16, none, .ref 3 [])]) (H' := [.box (.p ((eA eI 1 3) q)), .box (.p (eLang raw)), .box (.p (eLang (mdL l))), .box (.p (eLang (oddL (mdL l) (iAn l q) [])))]) (fun _ _ => ans_pub (l := (mdL l)) (i0 := (iAn l q)) (R := (rowI (mdL l) (iAn l q))) rfl (show flat (.box (.p _)) from ⟨_, rfl⟩) (show flat (.box (.p _)) from ⟨_, rfl⟩) (show flat (.box (.p _)) from ⟨_, rfl⟩) [] (fun h_ => absurd h_ (by omega)) (fun t_ g_ d_ h_ => match t_, h_ with | 0, h_ => by cases h_ | 1, h_ => by cases h_ | 2, h_ => by cases h_; exact ⟨rfl, _, rfl, .inl ⟨rfl, .inl ⟨_, rfl⟩⟩⟩ | 3, h_ => by cases h_; exact ⟨rfl, _, rfl, .inl ⟨rfl, .inl ⟨_, rfl⟩⟩⟩ | 4, h_ => by cases h_ | 5, h_ => by cases h_; exact ⟨rfl, _, rfl, .inl ⟨rfl, .inl ⟨_, rfl⟩⟩⟩ | 6, h_ => by cases h_ | 7, h_ => by cases h_ | 8, h_ => by cases h_ | 9, h_ => by cases h_ | 10, h_ => by cases h_; exact ⟨rfl, _, rfl, .inl ⟨rfl, .inr (.inr (.inl rfl))⟩⟩ | 11, h_ => by cases h_ | 12, h_ => by cases h_ | 13, h_ => by cases h_; exact ⟨rfl, _, rfl, .inl ⟨rfl, .inl ⟨_, rfl⟩⟩⟩ | 14, h_ => by cases h_; exact ⟨rfl, _, rfl, .inl ⟨rfl, .inr (.inr (.inr rfl))⟩⟩ | 15, h_ => by cases h_ | 16, h_ => by cases h_; exact ⟨rfl, _, rfl, .inr ⟨rfl, rfl⟩⟩ | n_ + 17, h_ => by cases h_)) (jn_end (oddL (mdL l) (iAn l q) []) ?_ ?_))
   ·show ((oddL (mdL l) (iAn l q) []) = (oddL (mdL l) (iAn l q) []))
    ·(simp; done)
   ·intro A_ W_ hS
    exact q_w [0, 1, 2, 3] [2, 3, 5, 10, 13, 14, 16] hS
end Go.Proofs.Ytjnjmnfacaakfaa
namespace Go.Proofs.Ytjnjmnfacaakfaa
open Go.Eng Go.ChangeShapes Go.WideShapes Go.ChangeAt Go.RowKit Go.Deep
section
variable {H : Type} {enc : TypeId × Value → H} {P : Program} {W : World}
theorem arg_lang {r : Reach} {b : Nat} {t eb tr ti : TypeId} {f0 f1 : Field} {v : Value} {d : DataW H} {ps : List MemPlace} (ht : P.underlying t = some (.struct #[f0, f1])) (hc : P.cellsOf t = 2) (o0 : f0.offset = 0) (o1 : f1.offset = 1)
  (c0 : P.cellsOf f0.type = 1) (c1 : P.cellsOf f1.type = 1) (ha : P.underlying f0.type = some (.slice eb)) (hb : P.underlying eb = some .bool) (hcb : P.cellsOf eb = 1)
  (hn : P.underlying f1.type = some (.slice tr)) (hr : P.underlying tr = some (.slice ti)) (hi : P.underlying ti = some (.int .i64)) (hcr : P.cellsOf tr = 1) (hci : P.cellsOf ti = 1)
  (hv : Value.okWide P W r b t v) (hd : DataW.Trod enc P W 0 (fun _ => true) true t v d ps) : ∃ x : Lang, Arg W (eLang x) v := by
 obtain ⟨cs, rfl, hsz⟩ := okWide_struct ht hv
 obtain ⟨fuel, hd⟩ := hd
 obtain ⟨y0, y1, n, _, _, h0, h1⟩ := trod_struct2 ht hd
 have hl : cs.toList.length = 2 := by rw [← hc, ← hsz]; simp
 obtain ⟨l⟩ := cs
 match l, hl with
 | [x, y], _ =>
  rw [o0, c0] at h0
  rw [o1, c1] at h1
  obtain ⟨la, ra, _⟩ := relP_slice (d0 := false) (e1 := eB) (Good := fun _ _ => True) ha hcb (fun n v y hy => by
   obtain ⟨z, e1, _⟩ := DataW.trod_bool hb hy
   cases e1
   exact ⟨z, .v rfl, trivial⟩) h0
  obtain ⟨ln, rn, _⟩ := relP_slice (d0 := ([] : List Int)) (e1 := eL eI 1 0) (Good := fun _ _ => True) hn hcr (fun n v y hy => by
   obtain ⟨z, e1, _⟩ := rel_ints hr hi hci n v y hy
   exact ⟨z, e1, trivial⟩) h1
  exact ⟨⟨la, ln⟩, .many rfl (.p (.cons ra (.cons rn .nil)))⟩
end
set_option maxRecDepth 100000 in
theorem answers_contract (H : Type) (enc : TypeId × Value → H) (W : World) (base : Nat) (args : Array Value) (ds gs : List (DataW H)) (before : List MemPlace)
  (hval : ∀ (j : Nat) t v, Try.f6.params[j]? = some t → args[j]? = some v → Value.okWide Try.prog W .any base t v)
  (hW : DataW.Whole enc Try.prog Try.f6.params.toList Rows.languageAnswersSpec.vars false W args.toList ds gs before)
  (hz : (DataW.weightsEach Try.prog (Try.f6.params.toList ++ Rows.languageAnswersSpec.plain.varTypes Try.prog) (ds ++ gs)).all (· ≤ reachBytes) = true) :
  Calls Try.prog 6 args W fun e W' => ∃ v, e = .returned v ∧ Rows.languageAnswersSpec.post enc Try.prog Try.f6 false true false false W args v W' := by
 refine contract_of (tb := 4) laidOut_ ?_ rfl Try.underlying4 rfl ?_ hval hW hz ?_
 ·intro t ht
  have ht' : t ∈ [22, 43, 22, 9, 32, 3] := ht
  simp only [List.mem_cons, List.not_mem_nil, or_false] at ht'
  rcases ht' with rfl | rfl | rfl | rfl | rfl | rfl
  ·exact readable22_
  ·exact readable43_
  ·exact readable22_
  ·exact readable9_
  ·exact readable32_
  ·exact readable3_
 ·intro ds hds
  match ds, hds with
  | [_, _, _, _, _, _], _ => exact ⟨rfl, rfl, rfl⟩
 ·intro hO
  obtain ⟨v0, d0, p0, e0, k0, t0, w0⟩ := hO 0 22 rfl
  obtain ⟨v1, d1, p1, e1, k1, t1, w1⟩ := hO 1 43 rfl
  obtain ⟨v2, d2, p2, e2, k2, t2, w2⟩ := hO 2 22 rfl
  obtain ⟨v3, d3, p3, e3, k3, t3, w3⟩ := hO 3 9 rfl
  obtain ⟨v4, d4, p4, e4, k4, t4, w4⟩ := hO 4 32 rfl
  obtain ⟨v5, d5, p5, e5, k5, t5, w5⟩ := hO 5 3 rfl
  obtain ⟨l, a0, g0⟩ := arg_ints Try.underlying22 Try.underlying3 cells3_ k0 t0
  obtain ⟨q, a1, g1⟩ := arg_array Try.underlying43 Try.underlying3 cells3_ cells43_ k1 t1
  obtain ⟨n, a2, g2⟩ := arg_ints Try.underlying22 Try.underlying3 cells3_ k2 t2
  obtain ⟨s, a3, g3⟩ := arg_string Try.underlying9 k3 t3
  obtain ⟨x, a4⟩ := arg_lang Try.underlying32 cells32_ rfl rfl cells29_ cells30_ Try.underlying29 Try.underlying4 cells4_ Try.underlying30 Try.underlying22 Try.underlying3 cells22_ cells3_ k4 t4
  obtain ⟨m, a5, g5⟩ := arg_int Try.underlying3 k5 t5
  have z2 := weigh_sl Try.underlying22 bytes3_ g2 w2
  have hs : s.length ≤ reachBytes := by
   subst g3
   exact w3 _ (by simp [DataW.weights])
  have hs : s.length < 4611686018427387904 := Nat.lt_of_le_of_lt hs (by decide)
  refine ⟨_, answers_ok l q n s x m hs z2.1, rfl, ?_⟩
  ·intro j p v hp hv
   match j, hp, hv with
   | 0, hp, hv => cases hp; cases e0.symm.trans hv; exact a0
   | 1, hp, hv => cases hp; cases e1.symm.trans hv; exact a1
   | 2, hp, hv => cases hp; cases e2.symm.trans hv; exact a2
   | 3, hp, hv => cases hp; cases e3.symm.trans hv; exact a3
   | 4, hp, hv => cases hp; cases e4.symm.trans hv; exact a4
   | 5, hp, hv => cases hp; cases e5.symm.trans hv; exact a5
set_option maxRecDepth 100000 in
theorem answers_lifted (os : Os) (started : os.Started) (H : Type) (enc : TypeId × Value → H) :
  ReturnsInHanded {} Try.checked os 6 .any (Rows.languageAnswersSpec.pre6 enc Try.prog Try.f6 Rows.languageAnswersRow.domain false) (Rows.languageAnswersSpec.post enc Try.prog Try.f6 false true false false) := by
 refine returnsInHanded_of_change_sized (C := Try.checked) own_ started (by kernel_rfl) Try.func6
  (ChangeSpec.witness6 (enc := enc) (C := Try.checked) false ⟨#[], #[.slice none 0 0, .agg #[.int .i64 0, .int .i64 0, .int .i64 0], .slice none 0 0, .string .empty, .agg #[.slice none 0 0, .slice none 0 0], .int .i64 0], []⟩ 8 (by kernel_rfl) (by kernel_rfl) (by kernel_rfl) (by kernel_rfl)) ?_
 intro W base args ds gs before hval hW _ hz _
 exact answers_contract H enc W base args ds gs before hval hW hz
theorem answersProved : Rows.LanguageAnswersSaid :=
 OpenClaim.holds_of_wide 6 Try.f6 rfl rfl rfl rfl rfl rfl rfl ⟨rfl, rfl, rfl, rfl, rfl⟩ rfl rfl rfl rfl rfl (by kernel_rfl) Try.func6 (by kernel_rfl)
  (of_decide_eq_true (by kernel_rfl)) (by unfold Func.isWrapper; first | (rw [if_pos (by decide +kernel)]; kernel_rfl) | (rw [if_neg (by decide +kernel)]; exact ⟨rfl, rfl⟩))
  (fun os started H enc _ => answers_lifted os started H enc)
end Go.Proofs.Ytjnjmnfacaakfaa
