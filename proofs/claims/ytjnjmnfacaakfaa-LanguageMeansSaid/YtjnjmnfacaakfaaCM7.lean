/-
  LanguageMeans: whatever the input, the call returns true, and each argument reads afterwards as it read before. No conditions. (Part 7 of 8 of its proof.)
-/
import Derived.Test.YtjnjmnfacaakfaaCM6
import Derived.Test.YtjnjmnfacaakfaaRows
namespace Go.Proofs.Ytjnjmnfacaakfaa
open Go.Eng
def unA (l : List Int) : Lang := (langS (patS (l.take 24))).1
theorem firstS_short {l : Lang} {m : Int} (x : List UInt8) (h : x ∈ firstS l m) : x.length ≤ 12 := (firstS_mem h).1
theorem short_get {W : List (List UInt8)} {q : Nat} (h : ∀ x ∈ W, x.length ≤ 12) : (W.getD q []).length ≤ 12 := by
  by_cases hq : q < W.length
  · rw [List.getD_eq_getElem?_getD, List.getElem?_eq_getElem hq]
    exact h _ (List.getElem_mem hq)
  · rw [List.getD_eq_getElem?_getD, List.getElem?_eq_none (by omega)]; simp
theorem short_app {W V : List (List UInt8)} (h : ∀ x ∈ W, x.length ≤ 12) (h1 : ∀ x ∈ V, x.length ≤ 12) : ∀ x ∈ W ++ V, x.length ≤ 12 := fun x hx => (List.mem_append.1 hx).elim (h x) (h1 x)
theorem short_word (l : List Int) : ∀ x ∈ [word l], x.length ≤ 12 := fun x hx => by rw [List.mem_singleton.1 hx]; have := word_len l; omega
theorem short_nil : ∀ x ∈ [([] : List UInt8)], x.length ≤ 12 := fun x hx => by rw [List.mem_singleton.1 hx]; simp
end Go.Proofs.Ytjnjmnfacaakfaa
namespace Go.Proofs.Ytjnjmnfacaakfaa
open Go.Eng
structure Piece where
  Set : (Nat → Bool) := (fun _ => false)
  More : Int := 0
def dPiece : Piece := {}
def ePiece (x : Piece) : PV := .agg [(eA eB 1 37) x.Set, (eK .u8) x.More]
def oneP (b : List Piece) (s : List UInt8) : Bool := (decide (0 < s.length) && (b.getD 0 dPiece).Set (max 0 (sym (s.getD 0 0).toNat)).toNat) && decide (0 ≤ sym (s.getD 0 0).toNat)
def mat : List Piece → List UInt8 → Bool
  | [], s => decide (s = [])
  | p :: b, [] => if p.More = 42 ∨ p.More = 63 then mat b [] else false
  | p :: b, c :: s => if p.More = 42 then mat b (c :: s) || (oneP (p :: b) (c :: s) && mat (p :: b) s) else if p.More = 63 then mat b (c :: s) || (oneP (p :: b) (c :: s) && mat b s) else oneP (p :: b) (c :: s) && mat b s
termination_by b s => b.length + s.length
theorem mat_step {b : List Piece} {s : List UInt8} (h : 0 < b.length) : mat b s = if (b.getD 0 dPiece).More = 42 then mat (b.drop 1) s || (oneP b s && mat b (s.drop 1)) else if (b.getD 0 dPiece).More = 63 then mat (b.drop 1) s || (oneP b s && mat (b.drop 1) (s.drop 1)) else oneP b s && mat (b.drop 1) (s.drop 1) := by
  match b, s, h with
  | p :: b, [], _ =>
    have e : oneP (p :: b) [] = false := by simp [oneP]
    rw [mat, e]
    simp only [List.getD_cons_zero, List.drop_succ_cons, List.drop_zero, Bool.false_and, Bool.or_false]
    by_cases h1 : p.More = 42
    · rw [if_pos (.inl h1), if_pos h1]
    · by_cases h2 : p.More = 63
      · rw [if_pos (.inr h2), if_neg h1, if_pos h2]
      · rw [if_neg (by rw [not_or]; exact ⟨h1, h2⟩), if_neg h1, if_neg h2]
  | p :: b, c :: s, _ =>
    rw [mat]
    rfl
theorem one_pos {b : List Piece} {s : List UInt8} (h : oneP b s = true) : 0 < s.length := by
  unfold oneP at h
  simp only [Bool.and_eq_true, decide_eq_true_eq] at h
  exact h.1.1
theorem mat_nil {b : List Piece} {s : List UInt8} (h : (b.length : Int) = 0) : mat b s = (s == []) := by
  cases b with
  | nil => rw [mat]; cases s <;> rfl
  | cons p b => simp at h; omega
theorem matchesStep_ok (b : List Piece) (s : List UInt8) (ih : ∀ b' s', b'.length + s'.length < b.length + s.length → Pure Try.prog 28 [(eL ePiece 38 dPiece) b', .s s'] (vbool (mat b' s'))) : Pure Try.prog 28 [(eL ePiece 38 dPiece) b, .s s] (vbool (mat b s)) := by
  have q1 := sym_le ((s.getD 0 0).toNat : Int)
  have q2 := sym_ge ((s.getD 0 0).toNat : Int)
  refine pure_of (fn := Try.f28) Try.func28 rfl rfl fun F_ W0_ => ?_
  refine tr_seq ?_
  refine tr_r (vc := []) (E' := [(0, none, .p ((eL ePiece 38 dPiece) b)), (1, none, vstr s)]) (H' := []) [] [] [0, 1] (by kernel_rfl) ?_ ?_
  · exact trivial
  refine tr_then ?_
  refine tr_seq ?_
  refine tr_seq ?_
  refine tr_r (vc := []) (E' := [(0, none, .p ((eL ePiece 38 dPiece) b)), (1, none, vstr s), (8, none, vbool (((b.length : Nat) : Int) == 0))]) (H' := []) [] [] [0, 1, 8] (by kernel_rfl) ?_ ?_
  · exact trivial
  refine tr_then ?_
  refine tr_condP (((b.length : Nat) : Int) == 0) (((b.length : Nat) : Int) = 0) (by simp) (by kernel_rfl) (fun hc1 => ?_) (fun hc1 => ?_)
  · skip
    refine tr_seq ?_
    refine tr_r (vc := []) (E' := [(4, none, vbool (s == ([] : List UInt8)))]) (H' := []) [] [] [4] (by kernel_rfl) ?_ ?_
    · exact trivial
    refine tr_then ?_
    refine tr_pre (E' := (4, none, vbool (mat b s)) :: [(4, none, vbool (s == ([] : List UInt8)))]) (H' := []) (fun A_ W_ hS => sl_set_imp (d := vbool (s == ([] : List UInt8))) 4 (vbool (mat b s)) (by kernel_rfl) ?_ hS) ?_
    · refine imp_eq (congrArg (fun x => D.p (eB x)) (a₁ := (s == ([] : List UInt8))) (a₂ := (mat b s)) ?_)
      exact (mat_nil hc1).symm
    refine tr_pre (E' := [(4, none, vbool (mat b s))]) (H' := []) (fun A_ W_ hS => sl_proj (ts := [4]) (by kernel_rfl) hS) ?_
    exact tr_return' (vc := []) (ds := [vbool (mat b s)]) (by kernel_rfl) trivial (by kernel_rfl) (fun _ _ h => h)
  · skip
    refine tr_skip ?_
    refine tr_then ?_
    refine tr_seq ?_
    refine tr_d (vc := [(decide (0 < ((s.length : Nat) : Int))) = true → (decide (0 < ((s.length : Nat) : Int))) = true, (decide (0 < ((s.length : Nat) : Int))) = true → ((0 : Int) ≤ 0), (decide (0 < ((s.length : Nat) : Int))) = true → (0 < (s.length : Int)), (decide (0 < ((s.length : Nat) : Int))) = true → (decide (0 < ((s.length : Nat) : Int))) = true, (decide (0 < ((s.length : Nat) : Int))) = true → (Pure Try.prog 43 [.v (.int .u8 ((s.getD 0 0).toNat : Int))] (vint .i64 (sym ((s.getD 0 0).toNat : Int)))), (decide (0 < ((s.length : Nat) : Int))) = true → (decide (0 < ((s.length : Nat) : Int))) = true, (decide (0 < ((s.length : Nat) : Int))) = true → (decide (0 < ((s.length : Nat) : Int))) = true, (decide (0 < ((s.length : Nat) : Int))) = true → ((0 : Int) ≤ 0), (decide (0 < ((s.length : Nat) : Int))) = true → (0 < (b.length : Int)), (decide (0 < ((s.length : Nat) : Int))) = true → (decide (0 < ((s.length : Nat) : Int))) = true, (decide (0 < ((s.length : Nat) : Int))) = true → (decide (0 < ((s.length : Nat) : Int))) = true, (decide (0 < ((s.length : Nat) : Int))) = true → (decide (0 < ((s.length : Nat) : Int))) = true, (decide (0 < ((s.length : Nat) : Int))) = true → ((0 : Int) ≤ (max 0 (sym ((s.getD 0 0).toNat : Int)))), (decide (0 < ((s.length : Nat) : Int))) = true → ((max 0 (sym ((s.getD 0 0).toNat : Int))) < (37 : Int)), (decide (0 < ((s.length : Nat) : Int))) = true → (decide (0 < ((s.length : Nat) : Int))) = true, (decide (0 < ((s.length : Nat) : Int))) = true → (decide (0 < ((s.length : Nat) : Int))) = true, ((decide (0 < ((s.length : Nat) : Int))) && (((b.getD 0 dPiece).Set) ((max 0 (sym ((s.getD 0 0).toNat : Int))).toNat))) = true → ((decide (0 < ((s.length : Nat) : Int))) && (((b.getD 0 dPiece).Set) ((max 0 (sym ((s.getD 0 0).toNat : Int))).toNat))) = true, ((decide (0 < ((s.length : Nat) : Int))) && (((b.getD 0 dPiece).Set) ((max 0 (sym ((s.getD 0 0).toNat : Int))).toNat))) = true → ((0 : Int) ≤ 0), ((decide (0 < ((s.length : Nat) : Int))) && (((b.getD 0 dPiece).Set) ((max 0 (sym ((s.getD 0 0).toNat : Int))).toNat))) = true → (0 < (s.length : Int)), ((decide (0 < ((s.length : Nat) : Int))) && (((b.getD 0 dPiece).Set) ((max 0 (sym ((s.getD 0 0).toNat : Int))).toNat))) = true → ((decide (0 < ((s.length : Nat) : Int))) && (((b.getD 0 dPiece).Set) ((max 0 (sym ((s.getD 0 0).toNat : Int))).toNat))) = true, ((decide (0 < ((s.length : Nat) : Int))) && (((b.getD 0 dPiece).Set) ((max 0 (sym ((s.getD 0 0).toNat : Int))).toNat))) = true → (Pure Try.prog 43 [.v (.int .u8 ((s.getD 0 0).toNat : Int))] (vint .i64 (sym ((s.getD 0 0).toNat : Int)))), ((decide (0 < ((s.length : Nat) : Int))) && (((b.getD 0 dPiece).Set) ((max 0 (sym ((s.getD 0 0).toNat : Int))).toNat))) = true → ((decide (0 < ((s.length : Nat) : Int))) && (((b.getD 0 dPiece).Set) ((max 0 (sym ((s.getD 0 0).toNat : Int))).toNat))) = true, ((decide (0 < ((s.length : Nat) : Int))) && (((b.getD 0 dPiece).Set) ((max 0 (sym ((s.getD 0 0).toNat : Int))).toNat))) = true → ((decide (0 < ((s.length : Nat) : Int))) && (((b.getD 0 dPiece).Set) ((max 0 (sym ((s.getD 0 0).toNat : Int))).toNat))) = true, (((decide (0 < ((s.length : Nat) : Int))) && (((b.getD 0 dPiece).Set) ((max 0 (sym ((s.getD 0 0).toNat : Int))).toNat))) && (decide (0 ≤ (sym ((s.getD 0 0).toNat : Int))))) = (oneP b s)]) (E' := [(0, none, .p ((eL ePiece 38 dPiece) b)), (1, none, vstr s), (5, none, vbool (oneP b s))]) [(20, vbool (oneP b s))] [(7, vint .i64 (sym ((s.getD 0 0).toNat : Int))), (17, vint .i64 (sym ((s.getD 0 0).toNat : Int)))] [0, 1, 5] (by kernel_rfl) (by kernel_rfl) (by kernel_rfl) ?_ ?_
    · refine al ?_ (al ?_ (al ?_ (al ?_ (al ?_ (al ?_ (al ?_ (al ?_ (al ?_ (al ?_ (al ?_ (al ?_ (al ?_ (al ?_ (al ?_ (al ?_ (al ?_ (al ?_ (al ?_ (al ?_ (al ?_ (al ?_ (al ?_ (al ?_ (trivial))))))))))))))))))))))))
      · exact id
      · first | omega | (intro hg; simp at hg; omega) | (simp; done) | (simp_all; done) | (simp_all; omega) | grind
      · first | omega | (intro hg; simp at hg; omega) | (simp; done) | (simp_all; done) | (simp_all; omega) | grind
      · exact id
      · intro _; first | exact refSymbolB_ok _ | exact refSymbol_ok _ (by omega) (by omega)
      · exact id
      · exact id
      · first | omega | (intro hg; simp at hg; omega) | (simp; done) | (simp_all; done) | (simp_all; omega) | grind
      · first | omega | (intro hg; simp at hg; omega) | (simp; done) | (simp_all; done) | (simp_all; omega) | grind
      · exact id
      · exact id
      · exact id
      · first | omega | (intro hg; simp at hg; omega) | (simp; done) | (simp_all; done) | (simp_all; omega) | grind
      · first | omega | (intro hg; simp at hg; omega) | (simp; done) | (simp_all; done) | (simp_all; omega) | grind
      · exact id
      · exact id
      · exact id
      · first | omega | (intro hg; simp at hg; omega) | (simp; done) | (simp_all; done) | (simp_all; omega) | grind
      · first | omega | (intro hg; simp at hg; omega) | (simp; done) | (simp_all; done) | (simp_all; omega) | grind
      · exact id
      · intro _; first | exact refSymbolB_ok _ | exact refSymbol_ok _ (by omega) (by omega)
      · exact id
      · exact id
      · unfold oneP; simp
    refine tr_then ?_
    refine tr_seq ?_
    refine tr_seq ?_
    refine tr_r (vc := [(0 : Int) ≤ 0, 0 < (b.length : Int)]) (E' := [(0, none, .p ((eL ePiece 38 dPiece) b)), (1, none, vstr s), (5, none, vbool (oneP b s)), (34, none, vint .u8 ((b.getD 0 dPiece).More))]) (H' := []) [] [] [0, 1, 5, 34] (by kernel_rfl) ?_ ?_
    · refine al ?_ (al ?_ (trivial))
      · first | omega | (intro hg; simp at hg; omega) | (simp; done) | (simp_all; done) | (simp_all; omega) | grind
      · first | omega | (intro hg; simp at hg; omega) | (simp; done) | (simp_all; done) | (simp_all; omega) | grind
    refine tr_then ?_
    refine tr_block ?_
    refine tr_seq ?_
    refine tr_r (vc := []) (E' := [(0, none, .p ((eL ePiece 38 dPiece) b)), (1, none, vstr s), (5, none, vbool (oneP b s)), (34, none, vint .u8 ((b.getD 0 dPiece).More)), (35, none, vbool (((b.getD 0 dPiece).More) == 42))]) (H' := []) [] [] [0, 1, 5, 34, 35] (by kernel_rfl) ?_ ?_
    · exact trivial
    refine tr_then ?_
    refine tr_condP (((b.getD 0 dPiece).More) == 42) (((b.getD 0 dPiece).More) = 42) (by simp) (by kernel_rfl) (fun hc2 => ?_) (fun hc2 => ?_)
    · skip
      refine tr_seq ?_
      refine tr_r (vc := [(0 : Int) ≤ 1, 1 ≤ (b.length : Int), (b.length : Int) ≤ (b.length : Int), (b.length - 1) = (b.drop 1).length ∧ ∀ j, j < (b.length - 1) → ePiece (b.getD (1 + j) dPiece) = ePiece ((b.drop 1).getD j dPiece), Pure Try.prog 28 [(eL ePiece 38 dPiece) (b.drop 1), .s s] (vbool (mat (b.drop 1) s)), (!(mat (b.drop 1) s)) = true → (!(mat (b.drop 1) s)) = true, ((!(mat (b.drop 1) s)) && (oneP b s)) = true → ((!(mat (b.drop 1) s)) && (oneP b s)) = true, ((!(mat (b.drop 1) s)) && (oneP b s)) = true → ((0 : Int) ≤ 1), ((!(mat (b.drop 1) s)) && (oneP b s)) = true → (1 ≤ (s.length : Int)), ((!(mat (b.drop 1) s)) && (oneP b s)) = true → ((s.length : Int) ≤ (s.length : Int)), ((!(mat (b.drop 1) s)) && (oneP b s)) = true → (((s.drop 1).take (s.length - 1)) = (s.drop 1)), ((!(mat (b.drop 1) s)) && (oneP b s)) = true → ((!(mat (b.drop 1) s)) && (oneP b s)) = true, ((!(mat (b.drop 1) s)) && (oneP b s)) = true → ((!(mat (b.drop 1) s)) && (oneP b s)) = true, ((!(mat (b.drop 1) s)) && (oneP b s)) = true → (Pure Try.prog 28 [(eL ePiece 38 dPiece) b, .s (s.drop 1)] (vbool (mat b (s.drop 1)))), (!(mat (b.drop 1) s)) = true → ((!(mat (b.drop 1) s)) = true → (!(mat (b.drop 1) s)) = true), ((!(mat (b.drop 1) s)) && (oneP b s)) = true → ((!(mat (b.drop 1) s)) && (oneP b s)) = true, (!(mat (b.drop 1) s)) = true → (!(mat (b.drop 1) s)) = true]) (E' := [(4, none, vbool ((mat (b.drop 1) s) || ((oneP b s) && (mat b (s.drop 1)))))]) (H' := []) [(1, .p ((eL ePiece 38 dPiece) (b.drop 1))), (9, vstr (s.drop 1))] [(3, vbool (mat (b.drop 1) s)), (10, vbool (mat b (s.drop 1)))] [4] (by kernel_rfl) ?_ ?_
      · refine al ?_ (al ?_ (al ?_ (al ?_ (al ?_ (al ?_ (al ?_ (al ?_ (al ?_ (al ?_ (al ?_ (al ?_ (al ?_ (al ?_ (al ?_ (al ?_ (al ?_ (trivial)))))))))))))))))
        · first | omega | (intro hg; simp at hg; omega) | (simp; done) | (simp_all; done) | (simp_all; omega) | grind
        · first | omega | (intro hg; simp at hg; omega) | (simp; done) | (simp_all; done) | (simp_all; omega) | grind
        · first | omega | (intro hg; simp at hg; omega) | (simp; done) | (simp_all; done) | (simp_all; omega) | grind
        · exact cut_drop
        · exact ih _ _ (by simp only [List.length_drop]; omega)
        · exact id
        · exact id
        · first | omega | (intro hg; simp at hg; omega) | (simp; done) | (simp_all; done) | (simp_all; omega) | grind
        · intro hg; simp only [Bool.and_eq_true] at hg; have := one_pos hg.2; omega
        · first | omega | (intro hg; simp at hg; omega) | (simp; done) | (simp_all; done) | (simp_all; omega) | grind
        · intro _; exact cut_drop_str
        · exact id
        · exact id
        · intro hg; simp only [Bool.and_eq_true] at hg; have := one_pos hg.2; exact ih _ _ (by simp only [List.length_drop]; omega)
        · intro _; exact id
        · exact id
        · exact id
      refine tr_then ?_
      refine tr_pre (E' := (4, none, vbool (mat b s)) :: [(4, none, vbool ((mat (b.drop 1) s) || ((oneP b s) && (mat b (s.drop 1)))))]) (H' := []) (fun A_ W_ hS => sl_set_imp (d := vbool ((mat (b.drop 1) s) || ((oneP b s) && (mat b (s.drop 1))))) 4 (vbool (mat b s)) (by kernel_rfl) ?_ hS) ?_
      · refine imp_eq (congrArg (fun x => D.p (eB x)) (a₁ := ((mat (b.drop 1) s) || ((oneP b s) && (mat b (s.drop 1))))) (a₂ := (mat b s)) ?_)
        rw [mat_step (b := b) (s := s) (by omega), if_pos hc2]
      refine tr_pre (E' := [(4, none, vbool (mat b s))]) (H' := []) (fun A_ W_ hS => sl_proj (ts := [4]) (by kernel_rfl) hS) ?_
      exact tr_return' (vc := []) (ds := [vbool (mat b s)]) (by kernel_rfl) trivial (by kernel_rfl) (fun _ _ h => h)
    · skip
      refine tr_seq ?_
      refine tr_r (vc := []) (E' := [(0, none, .p ((eL ePiece 38 dPiece) b)), (1, none, vstr s), (5, none, vbool (oneP b s)), (50, none, vbool (((b.getD 0 dPiece).More) == 63))]) (H' := []) [] [] [0, 1, 5, 50] (by kernel_rfl) ?_ ?_
      · exact trivial
      refine tr_then ?_
      refine tr_condP (((b.getD 0 dPiece).More) == 63) (((b.getD 0 dPiece).More) = 63) (by simp) (by kernel_rfl) (fun hc3 => ?_) (fun hc3 => ?_)
      · skip
        refine tr_seq ?_
        refine tr_d (vc := [(0 : Int) ≤ 1, 1 ≤ (b.length : Int), (b.length : Int) ≤ (b.length : Int), (b.length - 1) = (b.drop 1).length ∧ ∀ j, j < (b.length - 1) → ePiece (b.getD (1 + j) dPiece) = ePiece ((b.drop 1).getD j dPiece), Pure Try.prog 28 [(eL ePiece 38 dPiece) (b.drop 1), .s s] (vbool (mat (b.drop 1) s)), (!(mat (b.drop 1) s)) = true → (!(mat (b.drop 1) s)) = true, ((!(mat (b.drop 1) s)) && (oneP b s)) = true → ((!(mat (b.drop 1) s)) && (oneP b s)) = true, ((!(mat (b.drop 1) s)) && (oneP b s)) = true → ((0 : Int) ≤ 1), ((!(mat (b.drop 1) s)) && (oneP b s)) = true → (1 ≤ (b.length : Int)), ((!(mat (b.drop 1) s)) && (oneP b s)) = true → ((b.length : Int) ≤ (b.length : Int)), ((!(mat (b.drop 1) s)) && (oneP b s)) = true → ((b.length - 1) = (b.drop 1).length ∧ ∀ j, j < (b.length - 1) → ePiece (b.getD (1 + j) dPiece) = ePiece ((b.drop 1).getD j dPiece)), ((!(mat (b.drop 1) s)) && (oneP b s)) = true → ((!(mat (b.drop 1) s)) && (oneP b s)) = true, ((!(mat (b.drop 1) s)) && (oneP b s)) = true → ((0 : Int) ≤ 1), ((!(mat (b.drop 1) s)) && (oneP b s)) = true → (1 ≤ (s.length : Int)), ((!(mat (b.drop 1) s)) && (oneP b s)) = true → ((s.length : Int) ≤ (s.length : Int)), ((!(mat (b.drop 1) s)) && (oneP b s)) = true → (((s.drop 1).take (s.length - 1)) = (s.drop 1)), ((!(mat (b.drop 1) s)) && (oneP b s)) = true → ((!(mat (b.drop 1) s)) && (oneP b s)) = true, ((!(mat (b.drop 1) s)) && (oneP b s)) = true → ((!(mat (b.drop 1) s)) && (oneP b s)) = true, ((!(mat (b.drop 1) s)) && (oneP b s)) = true → (Pure Try.prog 28 [(eL ePiece 38 dPiece) (b.drop 1), .s (s.drop 1)] (vbool (mat (b.drop 1) (s.drop 1)))), (!(mat (b.drop 1) s)) = true → ((!(mat (b.drop 1) s)) = true → (!(mat (b.drop 1) s)) = true), ((!(mat (b.drop 1) s)) && (oneP b s)) = true → ((!(mat (b.drop 1) s)) && (oneP b s)) = true, (!(mat (b.drop 1) s)) = true → (!(mat (b.drop 1) s)) = true]) (E' := [(4, none, vbool ((mat (b.drop 1) s) || ((oneP b s) && (mat (b.drop 1) (s.drop 1)))))]) [(1, .p ((eL ePiece 38 dPiece) (b.drop 1))), (8, .p ((eL ePiece 38 dPiece) (b.drop 1))), (10, vstr (s.drop 1))] [(3, vbool (mat (b.drop 1) s)), (11, vbool (mat (b.drop 1) (s.drop 1)))] [4] (by kernel_rfl) (by kernel_rfl) (by kernel_rfl) ?_ ?_
        · refine al ?_ (al ?_ (al ?_ (al ?_ (al ?_ (al ?_ (al ?_ (al ?_ (al ?_ (al ?_ (al ?_ (al ?_ (al ?_ (al ?_ (al ?_ (al ?_ (al ?_ (al ?_ (al ?_ (al ?_ (al ?_ (al ?_ (trivial))))))))))))))))))))))
          · first | omega | (intro hg; simp at hg; omega) | (simp; done) | (simp_all; done) | (simp_all; omega) | grind
          · first | omega | (intro hg; simp at hg; omega) | (simp; done) | (simp_all; done) | (simp_all; omega) | grind
          · first | omega | (intro hg; simp at hg; omega) | (simp; done) | (simp_all; done) | (simp_all; omega) | grind
          · exact cut_drop
          · exact ih _ _ (by simp only [List.length_drop]; omega)
          · exact id
          · exact id
          · first | omega | (intro hg; simp at hg; omega) | (simp; done) | (simp_all; done) | (simp_all; omega) | grind
          · first | omega | (intro hg; simp at hg; omega) | (simp; done) | (simp_all; done) | (simp_all; omega) | grind
          · first | omega | (intro hg; simp at hg; omega) | (simp; done) | (simp_all; done) | (simp_all; omega) | grind
          · intro _; exact cut_drop
          · exact id
          · first | omega | (intro hg; simp at hg; omega) | (simp; done) | (simp_all; done) | (simp_all; omega) | grind
          · intro hg; simp only [Bool.and_eq_true] at hg; have := one_pos hg.2; omega
          · first | omega | (intro hg; simp at hg; omega) | (simp; done) | (simp_all; done) | (simp_all; omega) | grind
          · intro _; exact cut_drop_str
          · exact id
          · exact id
          · intro _; exact ih _ _ (by simp only [List.length_drop]; omega)
          · intro _; exact id
          · exact id
          · exact id
        refine tr_then ?_
        refine tr_pre (E' := (4, none, vbool (mat b s)) :: [(4, none, vbool ((mat (b.drop 1) s) || ((oneP b s) && (mat (b.drop 1) (s.drop 1)))))]) (H' := []) (fun A_ W_ hS => sl_set_imp (d := vbool ((mat (b.drop 1) s) || ((oneP b s) && (mat (b.drop 1) (s.drop 1))))) 4 (vbool (mat b s)) (by kernel_rfl) ?_ hS) ?_
        · refine imp_eq (congrArg (fun x => D.p (eB x)) (a₁ := ((mat (b.drop 1) s) || ((oneP b s) && (mat (b.drop 1) (s.drop 1))))) (a₂ := (mat b s)) ?_)
          rw [mat_step (b := b) (s := s) (by omega), if_neg hc2, if_pos hc3]
        refine tr_pre (E' := [(4, none, vbool (mat b s))]) (H' := []) (fun A_ W_ hS => sl_proj (ts := [4]) (by kernel_rfl) hS) ?_
        exact tr_return' (vc := []) (ds := [vbool (mat b s)]) (by kernel_rfl) trivial (by kernel_rfl) (fun _ _ h => h)
      · skip
        refine tr_skip ?_
        refine in_n ?_
        refine tr_then ?_
        refine tr_seq ?_
        refine tr_d (vc := [(oneP b s) = true → (oneP b s) = true, (oneP b s) = true → ((0 : Int) ≤ 1), (oneP b s) = true → (1 ≤ (b.length : Int)), (oneP b s) = true → ((b.length : Int) ≤ (b.length : Int)), (oneP b s) = true → ((b.length - 1) = (b.drop 1).length ∧ ∀ j, j < (b.length - 1) → ePiece (b.getD (1 + j) dPiece) = ePiece ((b.drop 1).getD j dPiece)), (oneP b s) = true → (oneP b s) = true, (oneP b s) = true → ((0 : Int) ≤ 1), (oneP b s) = true → (1 ≤ (s.length : Int)), (oneP b s) = true → ((s.length : Int) ≤ (s.length : Int)), (oneP b s) = true → (((s.drop 1).take (s.length - 1)) = (s.drop 1)), (oneP b s) = true → (oneP b s) = true, (oneP b s) = true → (oneP b s) = true, (oneP b s) = true → (Pure Try.prog 28 [(eL ePiece 38 dPiece) (b.drop 1), .s (s.drop 1)] (vbool (mat (b.drop 1) (s.drop 1)))), (oneP b s) = true → (oneP b s) = true]) (E' := [(4, none, vbool ((oneP b s) && (mat (b.drop 1) (s.drop 1))))]) [(3, .p ((eL ePiece 38 dPiece) (b.drop 1))), (5, vstr (s.drop 1))] [(6, vbool (mat (b.drop 1) (s.drop 1)))] [4] (by kernel_rfl) (by kernel_rfl) (by kernel_rfl) ?_ ?_
        · refine al ?_ (al ?_ (al ?_ (al ?_ (al ?_ (al ?_ (al ?_ (al ?_ (al ?_ (al ?_ (al ?_ (al ?_ (al ?_ (al ?_ (trivial))))))))))))))
          · exact id
          · first | omega | (intro hg; simp at hg; omega) | (simp; done) | (simp_all; done) | (simp_all; omega) | grind
          · first | omega | (intro hg; simp at hg; omega) | (simp; done) | (simp_all; done) | (simp_all; omega) | grind
          · first | omega | (intro hg; simp at hg; omega) | (simp; done) | (simp_all; done) | (simp_all; omega) | grind
          · intro _; exact cut_drop
          · exact id
          · first | omega | (intro hg; simp at hg; omega) | (simp; done) | (simp_all; done) | (simp_all; omega) | grind
          · intro hg; have := one_pos hg; omega
          · first | omega | (intro hg; simp at hg; omega) | (simp; done) | (simp_all; done) | (simp_all; omega) | grind
          · intro _; exact cut_drop_str
          · exact id
          · exact id
          · intro _; exact ih _ _ (by simp only [List.length_drop]; omega)
          · exact id
        refine tr_then ?_
        refine tr_pre (E' := (4, none, vbool (mat b s)) :: [(4, none, vbool ((oneP b s) && (mat (b.drop 1) (s.drop 1))))]) (H' := []) (fun A_ W_ hS => sl_set_imp (d := vbool ((oneP b s) && (mat (b.drop 1) (s.drop 1)))) 4 (vbool (mat b s)) (by kernel_rfl) ?_ hS) ?_
        · refine imp_eq (congrArg (fun x => D.p (eB x)) (a₁ := ((oneP b s) && (mat (b.drop 1) (s.drop 1)))) (a₂ := (mat b s)) ?_)
          rw [mat_step (b := b) (s := s) (by omega), if_neg hc2, if_neg hc3]
        refine tr_pre (E' := [(4, none, vbool (mat b s))]) (H' := []) (fun A_ W_ hS => sl_proj (ts := [4]) (by kernel_rfl) hS) ?_
        exact tr_return' (vc := []) (ds := [vbool (mat b s)]) (by kernel_rfl) trivial (by kernel_rfl) (fun _ _ h => h)
theorem matches_ok (b : List Piece) (s : List UInt8) : Pure Try.prog 28 [(eL ePiece 38 dPiece) b, .s s] (vbool (mat b s)) := by
  obtain ⟨n, hn⟩ : ∃ n, n = b.length + s.length := ⟨_, rfl⟩
  induction n using Nat.strongRecOn generalizing b s with
  | ind n ih => exact matchesStep_ok b s fun b' s' h => ih _ (by omega) b' s' rfl
end Go.Proofs.Ytjnjmnfacaakfaa
namespace Go.Proofs.Ytjnjmnfacaakfaa
open Go.Eng
def m0 (s : List UInt8) (p : Nat) : Int := sym (s.getD p 0).toNat
/-- What a member of a class begins with. -/
def memS (s : List UInt8) (p : Nat) : Nat → Bool := upd noSet (m0 s p).toNat true
def memR (s : List UInt8) (p : Nat) (first : Bool) : (Nat → Bool) × Nat × Bool :=
  if m0 s p < 0 then (noSet, p, false) else if m0 s p = 36 then (memS s p, p + 1, first) else
  if ((s.length : Nat) : Int) ≤ ((p + 1 : Nat) : Int) ∨ ((s.getD (p + 1) 0).toNat : Int) ≠ 45 then (memS s p, p + 1, true) else
  if ((s.length : Nat) : Int) ≤ ((p + 2 : Nat) : Int) then (memS s p, p, false) else
  if (m0 s (p + 2) < m0 s p ∨ m0 s (p + 2) = 36) ∨ m0 s p < 26 ∧ 26 ≤ m0 s (p + 2) then (memS s p, p, false) else
  (range (memS s p) (m0 s p) (m0 s (p + 2) + 1), p + 3, true)
theorem member_ok (s : List UInt8) (p : Nat) (first : Bool) (hb0 : s.length < 4611686018427387904) (hp : p < s.length) : Pure Try.prog 54 [.s s, .v (.int .i64 ((p : Nat) : Int)), .v (.bool first)] (.tup [.p ((eA eB 1 37) ((memR s p first).1)), vint .i64 (((memR s p first).2.1 : Nat) : Int), vbool ((memR s p first).2.2)]) := by
  have b0 := (s.getD p 0).toNat_lt
  have b1 := (s.getD (p + 2) 0).toNat_lt
  have q0 := sym_le ((s.getD p 0).toNat : Int)
  have q1 := sym_ge ((s.getD p 0).toNat : Int)
  have q2 := sym_le ((s.getD (p + 2) 0).toNat : Int)
  have q3 := sym_ge ((s.getD (p + 2) 0).toNat : Int)
  have e0 : m0 s p = sym ((s.getD p 0).toNat : Int) := rfl
  have e1 : m0 s (p + 2) = sym ((s.getD (p + 2) 0).toNat : Int) := rfl
  refine pure_of (fn := Try.f54) Try.func54 rfl rfl fun F_ W0_ => ?_
  refine tr_seq ?_
  refine tr_r (vc := []) (E' := [(0, none, vstr s), (1, none, vint .i64 ((p : Nat) : Int)), (2, none, vbool first), (6, none, .ref 0 [])]) (H' := [.box (.p ((eA eB 1 37) (fun _ => false)))]) [] [] [0, 1, 2, 6] (by kernel_rfl) ?_ ?_
  · exact trivial
  refine tr_then ?_
  refine tr_seq ?_
  refine tr_r (vc := []) (E' := [(0, none, vstr s), (1, none, vint .i64 ((p : Nat) : Int)), (2, none, vbool first), (6, none, .ref 0 []), (9, none, .ref 1 [])]) (H' := [.box (.p ((eA eB 1 37) (fun _ => false))), .box (.p ((eA eB 1 37) (fun _ => false)))]) [] [] [0, 1, 2, 6, 9] (by kernel_rfl) ?_ ?_
  · exact trivial
  refine tr_then ?_
  refine tr_seq ?_
  refine tr_r (vc := [(0 : Int) ≤ ((p : Nat) : Int), ((p : Nat) : Int) < (s.length : Int), Pure Try.prog 43 [.v (.int .u8 ((s.getD p 0).toNat : Int))] (vint .i64 (sym ((s.getD p 0).toNat : Int))), (sym ((s.getD p 0).toNat : Int)) = (m0 s p)]) (E' := [(0, none, vstr s), (1, none, vint .i64 ((p : Nat) : Int)), (2, none, vbool first), (6, none, .ref 0 []), (9, none, .ref 1 []), (10, none, vint .i64 (m0 s p))]) (H' := [.box (.p ((eA eB 1 37) (fun _ => false))), .box (.p ((eA eB 1 37) (fun _ => false)))]) [(4, vint .i64 (m0 s p))] [(3, vint .i64 (sym ((s.getD p 0).toNat : Int)))] [0, 1, 2, 6, 9, 10] (by kernel_rfl) ?_ ?_
  · refine al ?_ (al ?_ (al ?_ (al ?_ (trivial))))
    · first | omega | (intro hg; simp at hg; omega) | (simp; done) | (simp_all; done) | (simp_all; omega) | grind
    · first | omega | (intro hg; simp at hg; omega) | (simp; done) | (simp_all; done) | (simp_all; omega) | grind
    · first | exact refSymbolB_ok _ | exact refSymbol_ok _ (by omega) (by omega)
    · first | omega | (intro hg; simp at hg; omega) | (simp; done) | (simp_all; done) | (simp_all; omega) | grind
  refine tr_then ?_
  refine tr_seq ?_
  refine tr_seq ?_
  refine tr_r (vc := []) (E' := [(0, none, vstr s), (1, none, vint .i64 ((p : Nat) : Int)), (2, none, vbool first), (6, none, .ref 0 []), (9, none, .ref 1 []), (10, none, vint .i64 (m0 s p)), (18, none, vbool (decide ((m0 s p) < 0)))]) (H' := [.box (.p ((eA eB 1 37) (fun _ => false))), .box (.p ((eA eB 1 37) (fun _ => false)))]) [] [] [0, 1, 2, 6, 9, 10, 18] (by kernel_rfl) ?_ ?_
  · exact trivial
  refine tr_then ?_
  refine tr_condP (decide ((m0 s p) < 0)) ((m0 s p) < 0) (by simp) (by kernel_rfl) (fun hc1 => ?_) (fun hc1 => ?_)
  · skip
    refine tr_seq ?_
    refine tr_r (vc := []) (E' := [(6, none, .ref 0 []), (7, none, vint .i64 ((p : Nat) : Int)), (8, none, vbool false)]) (H' := [.box (.p ((eA eB 1 37) (fun _ => false))), .box (.p ((eA eB 1 37) (fun _ => false)))]) [] [] [6, 7, 8] (by kernel_rfl) ?_ ?_
    · exact trivial
    refine tr_then ?_
    refine tr_pre (E' := [(6, none, .ref 0 []), (7, none, vint .i64 ((p : Nat) : Int)), (8, none, vbool false)]) (H' := [.box (.p ((eA eB 1 37) (fun _ => false)))]) (fun A_ W_ hS => sl_weak (vc := []) [0] [6, 7, 8] (by kernel_rfl) trivial hS) ?_
    refine tr_pre (E' := [(6, none, .ref 0 []), (7, none, vint .i64 ((p : Nat) : Int)), (8, none, vbool false)]) (H' := [.box (.p ((eA eB 1 37) ((memR s p first).1)))]) (fun A_ W_ hS => sl_obj_imp (d := .p ((eA eB 1 37) (fun _ => false))) 0 (.p ((eA eB 1 37) ((memR s p first).1))) (by kernel_rfl) ?_ hS) ?_
    · refine impC_eq (congrArg (fun x => D.p ((eA eB 1 37) x)) (a₁ := (fun _ => false)) (a₂ := ((memR s p first).1)) ?_)
      first | (rw [memR, if_pos hc1]; done) | (rw [memR, if_pos hc1]; rfl) | (rw [memR, if_neg hc1, if_pos hc2]; done) | (rw [memR, if_neg hc1, if_pos hc2]; rfl) | (rw [memR, if_neg hc1, if_neg hc2, if_pos hc3]; done) | (rw [memR, if_neg hc1, if_neg hc2, if_pos hc3]; rfl) | (rw [memR, if_neg hc1, if_neg hc2, if_neg hc3, if_pos hc4]; done) | (rw [memR, if_neg hc1, if_neg hc2, if_neg hc3, if_pos hc4]; rfl) | (rw [memR, if_neg hc1, if_neg hc2, if_neg hc3, if_neg hc4, if_pos hc5]; done) | (rw [memR, if_neg hc1, if_neg hc2, if_neg hc3, if_neg hc4, if_pos hc5]; rfl) | (rw [memR, if_neg hc1, if_neg hc2, if_neg hc3, if_neg hc4, if_neg hc5, show m0 s (p + 2) + 1 = m0 s p + k by omega]; done) | (rw [memR, if_neg hc1, if_neg hc2, if_neg hc3, if_neg hc4, if_neg hc5, show m0 s (p + 2) + 1 = m0 s p + k by omega]; rfl)
    refine tr_pre (E' := (7, none, vint .i64 (((memR s p first).2.1 : Nat) : Int)) :: [(6, none, .ref 0 []), (7, none, vint .i64 ((p : Nat) : Int)), (8, none, vbool false)]) (H' := [.box (.p ((eA eB 1 37) ((memR s p first).1)))]) (fun A_ W_ hS => sl_set_imp (d := vint .i64 ((p : Nat) : Int)) 7 (vint .i64 (((memR s p first).2.1 : Nat) : Int)) (by kernel_rfl) ?_ hS) ?_
    · refine imp_eq (congrArg (fun x => D.p (eI x)) (a₁ := ((p : Nat) : Int)) (a₂ := (((memR s p first).2.1 : Nat) : Int)) ?_)
      first | (rw [memR, if_pos hc1]; done) | (rw [memR, if_pos hc1]; rfl) | (rw [memR, if_neg hc1, if_pos hc2]; done) | (rw [memR, if_neg hc1, if_pos hc2]; rfl) | (rw [memR, if_neg hc1, if_neg hc2, if_pos hc3]; done) | (rw [memR, if_neg hc1, if_neg hc2, if_pos hc3]; rfl) | (rw [memR, if_neg hc1, if_neg hc2, if_neg hc3, if_pos hc4]; done) | (rw [memR, if_neg hc1, if_neg hc2, if_neg hc3, if_pos hc4]; rfl) | (rw [memR, if_neg hc1, if_neg hc2, if_neg hc3, if_neg hc4, if_pos hc5]; done) | (rw [memR, if_neg hc1, if_neg hc2, if_neg hc3, if_neg hc4, if_pos hc5]; rfl) | (rw [memR, if_neg hc1, if_neg hc2, if_neg hc3, if_neg hc4, if_neg hc5, show m0 s (p + 2) + 1 = m0 s p + k by omega]; done) | (rw [memR, if_neg hc1, if_neg hc2, if_neg hc3, if_neg hc4, if_neg hc5, show m0 s (p + 2) + 1 = m0 s p + k by omega]; rfl)
    refine tr_pre (E' := [(6, none, .ref 0 []), (7, none, vint .i64 (((memR s p first).2.1 : Nat) : Int)), (8, none, vbool false)]) (H' := [.box (.p ((eA eB 1 37) ((memR s p first).1)))]) (fun A_ W_ hS => sl_proj (ts := [6, 7, 8]) (by kernel_rfl) hS) ?_
    refine tr_pre (E' := (8, none, vbool ((memR s p first).2.2)) :: [(6, none, .ref 0 []), (7, none, vint .i64 (((memR s p first).2.1 : Nat) : Int)), (8, none, vbool false)]) (H' := [.box (.p ((eA eB 1 37) ((memR s p first).1)))]) (fun A_ W_ hS => sl_set_imp (d := vbool false) 8 (vbool ((memR s p first).2.2)) (by kernel_rfl) ?_ hS) ?_
    · refine imp_eq (congrArg (fun x => D.p (eB x)) (a₁ := false) (a₂ := ((memR s p first).2.2)) ?_)
      first | (rw [memR, if_pos hc1]; done) | (rw [memR, if_pos hc1]; rfl) | (rw [memR, if_neg hc1, if_pos hc2]; done) | (rw [memR, if_neg hc1, if_pos hc2]; rfl) | (rw [memR, if_neg hc1, if_neg hc2, if_pos hc3]; done) | (rw [memR, if_neg hc1, if_neg hc2, if_pos hc3]; rfl) | (rw [memR, if_neg hc1, if_neg hc2, if_neg hc3, if_pos hc4]; done) | (rw [memR, if_neg hc1, if_neg hc2, if_neg hc3, if_pos hc4]; rfl) | (rw [memR, if_neg hc1, if_neg hc2, if_neg hc3, if_neg hc4, if_pos hc5]; done) | (rw [memR, if_neg hc1, if_neg hc2, if_neg hc3, if_neg hc4, if_pos hc5]; rfl) | (rw [memR, if_neg hc1, if_neg hc2, if_neg hc3, if_neg hc4, if_neg hc5, show m0 s (p + 2) + 1 = m0 s p + k by omega]; done) | (rw [memR, if_neg hc1, if_neg hc2, if_neg hc3, if_neg hc4, if_neg hc5, show m0 s (p + 2) + 1 = m0 s p + k by omega]; rfl)
    refine tr_pre (E' := [(6, none, .ref 0 []), (7, none, vint .i64 (((memR s p first).2.1 : Nat) : Int)), (8, none, vbool ((memR s p first).2.2))]) (H' := [.box (.p ((eA eB 1 37) ((memR s p first).1)))]) (fun A_ W_ hS => sl_proj (ts := [6, 7, 8]) (by kernel_rfl) hS) ?_
    exact tr_return' (vc := []) (ds := [.p ((eA eB 1 37) ((memR s p first).1)), vint .i64 (((memR s p first).2.1 : Nat) : Int), vbool ((memR s p first).2.2)]) (by kernel_rfl) trivial (by kernel_rfl) (fun _ _ h => h)
  · skip
    refine tr_skip ?_
    refine tr_then ?_
    refine tr_seq ?_
    refine tr_r (vc := [(0 : Int) ≤ (m0 s p), (m0 s p) < (37 : Int), (m0 s p).toNat < 37]) (E' := [(0, none, vstr s), (1, none, vint .i64 ((p : Nat) : Int)), (2, none, vbool first), (6, none, .ref 0 []), (9, none, .ref 1 []), (10, none, vint .i64 (m0 s p))]) (H' := [.box (.p ((eA eB 1 37) (fun _ => false))), .box (.p (.vec 1 37 (upd (fun i => eB ((fun _ => false) i)) ((m0 s p).toNat) (.v (.bool true)))))]) [] [] [0, 1, 2, 6, 9, 10] (by kernel_rfl) ?_ ?_
    · refine al ?_ (al ?_ (al ?_ (trivial)))
      · first | omega | (intro hg; simp at hg; omega) | (simp; done) | (simp_all; done) | (simp_all; omega) | grind
      · first | omega | (intro hg; simp at hg; omega) | (simp; done) | (simp_all; done) | (simp_all; omega) | grind
      · first | omega | (intro hg; simp at hg; omega) | (simp; done) | (simp_all; done) | (simp_all; omega) | grind
    refine nm_pre (E' := [(0, none, vstr s), (1, none, vint .i64 ((p : Nat) : Int)), (2, none, vbool first), (6, none, .ref 0 []), (9, none, .ref 1 []), (10, none, vint .i64 (m0 s p))]) (H' := [.box (.p ((eA eB 1 37) (fun _ => false))), .box (.p ((eA eB 1 37) (upd (fun _ => false) ((m0 s p).toNat) true)))]) (fun A_ W_ hS => sl_obj (o := .box (.p (.vec 1 37 (upd (fun i => eB ((fun _ => false) i)) ((m0 s p).toNat) (.v (.bool true)))))) 1 (.box (.p ((eA eB 1 37) (upd (fun _ => false) ((m0 s p).toNat) true)))) (by kernel_rfl) (by exact congrArg (fun y => O.box (D.p y)) (vec_upd (e := eB) (f := (fun _ => false)) (k := ((m0 s p).toNat)) (x := true))) hS) ?_
    refine tr_then ?_
    refine tr_seq ?_
    refine tr_seq ?_
    refine tr_r (vc := []) (E' := [(0, none, vstr s), (1, none, vint .i64 ((p : Nat) : Int)), (2, none, vbool first), (6, none, .ref 0 []), (9, none, .ref 1 []), (10, none, vint .i64 (m0 s p)), (24, none, vbool ((m0 s p) == 36))]) (H' := [.box (.p ((eA eB 1 37) (fun _ => false))), .box (.p ((eA eB 1 37) (upd (fun _ => false) ((m0 s p).toNat) true)))]) [] [] [0, 1, 2, 6, 9, 10, 24] (by kernel_rfl) ?_ ?_
    · exact trivial
    refine tr_then ?_
    refine tr_condP ((m0 s p) == 36) ((m0 s p) = 36) (by simp) (by kernel_rfl) (fun hc2 => ?_) (fun hc2 => ?_)
    · skip
      refine tr_seq ?_
      refine tr_r (vc := [(IntKind.wrap .i64 (((p : Nat) : Int) + 1)) = (((p + 1) : Nat) : Int)]) (E' := [(6, none, .ref 0 []), (7, none, vint .i64 (((p + 1) : Nat) : Int)), (8, none, vbool first)]) (H' := [.box (.p ((eA eB 1 37) (upd (fun _ => false) ((m0 s p).toNat) true))), .box (.p ((eA eB 1 37) (upd (fun _ => false) ((m0 s p).toNat) true)))]) [(2, vint .i64 (((p + 1) : Nat) : Int))] [] [6, 7, 8] (by kernel_rfl) ?_ ?_
      · refine al ?_ (trivial)
        · exact wr64 (by omega) (by omega) (by omega)
      refine tr_then ?_
      refine tr_pre (E' := [(6, none, .ref 0 []), (7, none, vint .i64 (((p + 1) : Nat) : Int)), (8, none, vbool first)]) (H' := [.box (.p ((eA eB 1 37) (upd (fun _ => false) ((m0 s p).toNat) true)))]) (fun A_ W_ hS => sl_weak (vc := []) [0] [6, 7, 8] (by kernel_rfl) trivial hS) ?_
      refine tr_pre (E' := [(6, none, .ref 0 []), (7, none, vint .i64 (((p + 1) : Nat) : Int)), (8, none, vbool first)]) (H' := [.box (.p ((eA eB 1 37) ((memR s p first).1)))]) (fun A_ W_ hS => sl_obj_imp (d := .p ((eA eB 1 37) (upd (fun _ => false) ((m0 s p).toNat) true))) 0 (.p ((eA eB 1 37) ((memR s p first).1))) (by kernel_rfl) ?_ hS) ?_
      · refine impC_eq (congrArg (fun x => D.p ((eA eB 1 37) x)) (a₁ := (upd (fun _ => false) ((m0 s p).toNat) true)) (a₂ := ((memR s p first).1)) ?_)
        first | (rw [memR, if_pos hc1]; done) | (rw [memR, if_pos hc1]; rfl) | (rw [memR, if_neg hc1, if_pos hc2]; done) | (rw [memR, if_neg hc1, if_pos hc2]; rfl) | (rw [memR, if_neg hc1, if_neg hc2, if_pos hc3]; done) | (rw [memR, if_neg hc1, if_neg hc2, if_pos hc3]; rfl) | (rw [memR, if_neg hc1, if_neg hc2, if_neg hc3, if_pos hc4]; done) | (rw [memR, if_neg hc1, if_neg hc2, if_neg hc3, if_pos hc4]; rfl) | (rw [memR, if_neg hc1, if_neg hc2, if_neg hc3, if_neg hc4, if_pos hc5]; done) | (rw [memR, if_neg hc1, if_neg hc2, if_neg hc3, if_neg hc4, if_pos hc5]; rfl) | (rw [memR, if_neg hc1, if_neg hc2, if_neg hc3, if_neg hc4, if_neg hc5, show m0 s (p + 2) + 1 = m0 s p + k by omega]; done) | (rw [memR, if_neg hc1, if_neg hc2, if_neg hc3, if_neg hc4, if_neg hc5, show m0 s (p + 2) + 1 = m0 s p + k by omega]; rfl)
      refine tr_pre (E' := (7, none, vint .i64 (((memR s p first).2.1 : Nat) : Int)) :: [(6, none, .ref 0 []), (7, none, vint .i64 (((p + 1) : Nat) : Int)), (8, none, vbool first)]) (H' := [.box (.p ((eA eB 1 37) ((memR s p first).1)))]) (fun A_ W_ hS => sl_set_imp (d := vint .i64 (((p + 1) : Nat) : Int)) 7 (vint .i64 (((memR s p first).2.1 : Nat) : Int)) (by kernel_rfl) ?_ hS) ?_
      · refine imp_eq (congrArg (fun x => D.p (eI x)) (a₁ := (((p + 1) : Nat) : Int)) (a₂ := (((memR s p first).2.1 : Nat) : Int)) ?_)
        first | (rw [memR, if_pos hc1]; done) | (rw [memR, if_pos hc1]; rfl) | (rw [memR, if_neg hc1, if_pos hc2]; done) | (rw [memR, if_neg hc1, if_pos hc2]; rfl) | (rw [memR, if_neg hc1, if_neg hc2, if_pos hc3]; done) | (rw [memR, if_neg hc1, if_neg hc2, if_pos hc3]; rfl) | (rw [memR, if_neg hc1, if_neg hc2, if_neg hc3, if_pos hc4]; done) | (rw [memR, if_neg hc1, if_neg hc2, if_neg hc3, if_pos hc4]; rfl) | (rw [memR, if_neg hc1, if_neg hc2, if_neg hc3, if_neg hc4, if_pos hc5]; done) | (rw [memR, if_neg hc1, if_neg hc2, if_neg hc3, if_neg hc4, if_pos hc5]; rfl) | (rw [memR, if_neg hc1, if_neg hc2, if_neg hc3, if_neg hc4, if_neg hc5, show m0 s (p + 2) + 1 = m0 s p + k by omega]; done) | (rw [memR, if_neg hc1, if_neg hc2, if_neg hc3, if_neg hc4, if_neg hc5, show m0 s (p + 2) + 1 = m0 s p + k by omega]; rfl)
      refine tr_pre (E' := [(6, none, .ref 0 []), (7, none, vint .i64 (((memR s p first).2.1 : Nat) : Int)), (8, none, vbool first)]) (H' := [.box (.p ((eA eB 1 37) ((memR s p first).1)))]) (fun A_ W_ hS => sl_proj (ts := [6, 7, 8]) (by kernel_rfl) hS) ?_
      refine tr_pre (E' := (8, none, vbool ((memR s p first).2.2)) :: [(6, none, .ref 0 []), (7, none, vint .i64 (((memR s p first).2.1 : Nat) : Int)), (8, none, vbool first)]) (H' := [.box (.p ((eA eB 1 37) ((memR s p first).1)))]) (fun A_ W_ hS => sl_set_imp (d := vbool first) 8 (vbool ((memR s p first).2.2)) (by kernel_rfl) ?_ hS) ?_
      · refine imp_eq (congrArg (fun x => D.p (eB x)) (a₁ := first) (a₂ := ((memR s p first).2.2)) ?_)
        first | (rw [memR, if_pos hc1]; done) | (rw [memR, if_pos hc1]; rfl) | (rw [memR, if_neg hc1, if_pos hc2]; done) | (rw [memR, if_neg hc1, if_pos hc2]; rfl) | (rw [memR, if_neg hc1, if_neg hc2, if_pos hc3]; done) | (rw [memR, if_neg hc1, if_neg hc2, if_pos hc3]; rfl) | (rw [memR, if_neg hc1, if_neg hc2, if_neg hc3, if_pos hc4]; done) | (rw [memR, if_neg hc1, if_neg hc2, if_neg hc3, if_pos hc4]; rfl) | (rw [memR, if_neg hc1, if_neg hc2, if_neg hc3, if_neg hc4, if_pos hc5]; done) | (rw [memR, if_neg hc1, if_neg hc2, if_neg hc3, if_neg hc4, if_pos hc5]; rfl) | (rw [memR, if_neg hc1, if_neg hc2, if_neg hc3, if_neg hc4, if_neg hc5, show m0 s (p + 2) + 1 = m0 s p + k by omega]; done) | (rw [memR, if_neg hc1, if_neg hc2, if_neg hc3, if_neg hc4, if_neg hc5, show m0 s (p + 2) + 1 = m0 s p + k by omega]; rfl)
      refine tr_pre (E' := [(6, none, .ref 0 []), (7, none, vint .i64 (((memR s p first).2.1 : Nat) : Int)), (8, none, vbool ((memR s p first).2.2))]) (H' := [.box (.p ((eA eB 1 37) ((memR s p first).1)))]) (fun A_ W_ hS => sl_proj (ts := [6, 7, 8]) (by kernel_rfl) hS) ?_
      exact tr_return' (vc := []) (ds := [.p ((eA eB 1 37) ((memR s p first).1)), vint .i64 (((memR s p first).2.1 : Nat) : Int), vbool ((memR s p first).2.2)]) (by kernel_rfl) trivial (by kernel_rfl) (fun _ _ h => h)
    · skip
      refine tr_skip ?_
      refine tr_then ?_
      refine tr_seq ?_
      refine tr_seq ?_
      refine tr_r (vc := [(IntKind.wrap .i64 (((p : Nat) : Int) + 1)) = (((p + 1) : Nat) : Int), (!(decide (((s.length : Nat) : Int) ≤ (((p + 1) : Nat) : Int)))) = true → (!(decide (((s.length : Nat) : Int) ≤ (((p + 1) : Nat) : Int)))) = true, (!(decide (((s.length : Nat) : Int) ≤ (((p + 1) : Nat) : Int)))) = true → ((IntKind.wrap .i64 (((p : Nat) : Int) + 1)) = (((p + 1) : Nat) : Int)), (!(decide (((s.length : Nat) : Int) ≤ (((p + 1) : Nat) : Int)))) = true → (!(decide (((s.length : Nat) : Int) ≤ (((p + 1) : Nat) : Int)))) = true, (!(decide (((s.length : Nat) : Int) ≤ (((p + 1) : Nat) : Int)))) = true → (!(decide (((s.length : Nat) : Int) ≤ (((p + 1) : Nat) : Int)))) = true, (!(decide (((s.length : Nat) : Int) ≤ (((p + 1) : Nat) : Int)))) = true → ((0 : Int) ≤ (((p + 1) : Nat) : Int)), (!(decide (((s.length : Nat) : Int) ≤ (((p + 1) : Nat) : Int)))) = true → ((((p + 1) : Nat) : Int) < (s.length : Int)), (!(decide (((s.length : Nat) : Int) ≤ (((p + 1) : Nat) : Int)))) = true → (!(decide (((s.length : Nat) : Int) ≤ (((p + 1) : Nat) : Int)))) = true, (!(decide (((s.length : Nat) : Int) ≤ (((p + 1) : Nat) : Int)))) = true → (!(decide (((s.length : Nat) : Int) ≤ (((p + 1) : Nat) : Int)))) = true]) (E' := [(0, none, vstr s), (1, none, vint .i64 ((p : Nat) : Int)), (6, none, .ref 0 []), (9, none, .ref 1 []), (10, none, vint .i64 (m0 s p)), (40, none, vbool ((decide (((s.length : Nat) : Int) ≤ (((p + 1) : Nat) : Int))) || (((s.getD (p + 1) 0).toNat : Int) != 45)))]) (H' := [.box (.p ((eA eB 1 37) (fun _ => false))), .box (.p ((eA eB 1 37) (upd (fun _ => false) ((m0 s p).toNat) true)))]) [(1, vint .i64 (((p + 1) : Nat) : Int)), (8, vint .i64 (((p + 1) : Nat) : Int))] [] [0, 1, 6, 9, 10, 40] (by kernel_rfl) ?_ ?_
      · refine al ?_ (al ?_ (al ?_ (al ?_ (al ?_ (al ?_ (al ?_ (al ?_ (al ?_ (trivial)))))))))
        · exact wr64 (by omega) (by omega) (by omega)
        · exact id
        · intro _; exact wr64 (by omega) (by omega) (by omega)
        · exact id
        · exact id
        · first | omega | (intro hg; simp at hg; omega) | (simp; done) | (simp_all; done) | (simp_all; omega) | grind
        · first | omega | (intro hg; simp at hg; omega) | (simp; done) | (simp_all; done) | (simp_all; omega) | grind
        · exact id
        · exact id
      refine tr_then ?_
      refine tr_condP ((decide (((s.length : Nat) : Int) ≤ (((p + 1) : Nat) : Int))) || (((s.getD (p + 1) 0).toNat : Int) != 45)) ((((s.length : Nat) : Int) ≤ (((p + 1) : Nat) : Int)) ∨ (((s.getD (p + 1) 0).toNat : Int) ≠ 45)) (by simp) (by kernel_rfl) (fun hc3 => ?_) (fun hc3 => ?_)
      · skip
        refine tr_seq ?_
        refine tr_r (vc := [(IntKind.wrap .i64 (((p : Nat) : Int) + 1)) = (((p + 1) : Nat) : Int)]) (E' := [(6, none, .ref 0 []), (7, none, vint .i64 (((p + 1) : Nat) : Int)), (8, none, vbool true)]) (H' := [.box (.p ((eA eB 1 37) (upd (fun _ => false) ((m0 s p).toNat) true))), .box (.p ((eA eB 1 37) (upd (fun _ => false) ((m0 s p).toNat) true)))]) [(2, vint .i64 (((p + 1) : Nat) : Int))] [] [6, 7, 8] (by kernel_rfl) ?_ ?_
        · refine al ?_ (trivial)
          · exact wr64 (by omega) (by omega) (by omega)
        refine tr_then ?_
        refine tr_pre (E' := [(6, none, .ref 0 []), (7, none, vint .i64 (((p + 1) : Nat) : Int)), (8, none, vbool true)]) (H' := [.box (.p ((eA eB 1 37) (upd (fun _ => false) ((m0 s p).toNat) true)))]) (fun A_ W_ hS => sl_weak (vc := []) [0] [6, 7, 8] (by kernel_rfl) trivial hS) ?_
        refine tr_pre (E' := [(6, none, .ref 0 []), (7, none, vint .i64 (((p + 1) : Nat) : Int)), (8, none, vbool true)]) (H' := [.box (.p ((eA eB 1 37) ((memR s p first).1)))]) (fun A_ W_ hS => sl_obj_imp (d := .p ((eA eB 1 37) (upd (fun _ => false) ((m0 s p).toNat) true))) 0 (.p ((eA eB 1 37) ((memR s p first).1))) (by kernel_rfl) ?_ hS) ?_
        · refine impC_eq (congrArg (fun x => D.p ((eA eB 1 37) x)) (a₁ := (upd (fun _ => false) ((m0 s p).toNat) true)) (a₂ := ((memR s p first).1)) ?_)
          first | (rw [memR, if_pos hc1]; done) | (rw [memR, if_pos hc1]; rfl) | (rw [memR, if_neg hc1, if_pos hc2]; done) | (rw [memR, if_neg hc1, if_pos hc2]; rfl) | (rw [memR, if_neg hc1, if_neg hc2, if_pos hc3]; done) | (rw [memR, if_neg hc1, if_neg hc2, if_pos hc3]; rfl) | (rw [memR, if_neg hc1, if_neg hc2, if_neg hc3, if_pos hc4]; done) | (rw [memR, if_neg hc1, if_neg hc2, if_neg hc3, if_pos hc4]; rfl) | (rw [memR, if_neg hc1, if_neg hc2, if_neg hc3, if_neg hc4, if_pos hc5]; done) | (rw [memR, if_neg hc1, if_neg hc2, if_neg hc3, if_neg hc4, if_pos hc5]; rfl) | (rw [memR, if_neg hc1, if_neg hc2, if_neg hc3, if_neg hc4, if_neg hc5, show m0 s (p + 2) + 1 = m0 s p + k by omega]; done) | (rw [memR, if_neg hc1, if_neg hc2, if_neg hc3, if_neg hc4, if_neg hc5, show m0 s (p + 2) + 1 = m0 s p + k by omega]; rfl)
        refine tr_pre (E' := (7, none, vint .i64 (((memR s p first).2.1 : Nat) : Int)) :: [(6, none, .ref 0 []), (7, none, vint .i64 (((p + 1) : Nat) : Int)), (8, none, vbool true)]) (H' := [.box (.p ((eA eB 1 37) ((memR s p first).1)))]) (fun A_ W_ hS => sl_set_imp (d := vint .i64 (((p + 1) : Nat) : Int)) 7 (vint .i64 (((memR s p first).2.1 : Nat) : Int)) (by kernel_rfl) ?_ hS) ?_
        · refine imp_eq (congrArg (fun x => D.p (eI x)) (a₁ := (((p + 1) : Nat) : Int)) (a₂ := (((memR s p first).2.1 : Nat) : Int)) ?_)
          first | (rw [memR, if_pos hc1]; done) | (rw [memR, if_pos hc1]; rfl) | (rw [memR, if_neg hc1, if_pos hc2]; done) | (rw [memR, if_neg hc1, if_pos hc2]; rfl) | (rw [memR, if_neg hc1, if_neg hc2, if_pos hc3]; done) | (rw [memR, if_neg hc1, if_neg hc2, if_pos hc3]; rfl) | (rw [memR, if_neg hc1, if_neg hc2, if_neg hc3, if_pos hc4]; done) | (rw [memR, if_neg hc1, if_neg hc2, if_neg hc3, if_pos hc4]; rfl) | (rw [memR, if_neg hc1, if_neg hc2, if_neg hc3, if_neg hc4, if_pos hc5]; done) | (rw [memR, if_neg hc1, if_neg hc2, if_neg hc3, if_neg hc4, if_pos hc5]; rfl) | (rw [memR, if_neg hc1, if_neg hc2, if_neg hc3, if_neg hc4, if_neg hc5, show m0 s (p + 2) + 1 = m0 s p + k by omega]; done) | (rw [memR, if_neg hc1, if_neg hc2, if_neg hc3, if_neg hc4, if_neg hc5, show m0 s (p + 2) + 1 = m0 s p + k by omega]; rfl)
        refine tr_pre (E' := [(6, none, .ref 0 []), (7, none, vint .i64 (((memR s p first).2.1 : Nat) : Int)), (8, none, vbool true)]) (H' := [.box (.p ((eA eB 1 37) ((memR s p first).1)))]) (fun A_ W_ hS => sl_proj (ts := [6, 7, 8]) (by kernel_rfl) hS) ?_
        refine tr_pre (E' := (8, none, vbool ((memR s p first).2.2)) :: [(6, none, .ref 0 []), (7, none, vint .i64 (((memR s p first).2.1 : Nat) : Int)), (8, none, vbool true)]) (H' := [.box (.p ((eA eB 1 37) ((memR s p first).1)))]) (fun A_ W_ hS => sl_set_imp (d := vbool true) 8 (vbool ((memR s p first).2.2)) (by kernel_rfl) ?_ hS) ?_
        · refine imp_eq (congrArg (fun x => D.p (eB x)) (a₁ := true) (a₂ := ((memR s p first).2.2)) ?_)
          first | (rw [memR, if_pos hc1]; done) | (rw [memR, if_pos hc1]; rfl) | (rw [memR, if_neg hc1, if_pos hc2]; done) | (rw [memR, if_neg hc1, if_pos hc2]; rfl) | (rw [memR, if_neg hc1, if_neg hc2, if_pos hc3]; done) | (rw [memR, if_neg hc1, if_neg hc2, if_pos hc3]; rfl) | (rw [memR, if_neg hc1, if_neg hc2, if_neg hc3, if_pos hc4]; done) | (rw [memR, if_neg hc1, if_neg hc2, if_neg hc3, if_pos hc4]; rfl) | (rw [memR, if_neg hc1, if_neg hc2, if_neg hc3, if_neg hc4, if_pos hc5]; done) | (rw [memR, if_neg hc1, if_neg hc2, if_neg hc3, if_neg hc4, if_pos hc5]; rfl) | (rw [memR, if_neg hc1, if_neg hc2, if_neg hc3, if_neg hc4, if_neg hc5, show m0 s (p + 2) + 1 = m0 s p + k by omega]; done) | (rw [memR, if_neg hc1, if_neg hc2, if_neg hc3, if_neg hc4, if_neg hc5, show m0 s (p + 2) + 1 = m0 s p + k by omega]; rfl)
        refine tr_pre (E' := [(6, none, .ref 0 []), (7, none, vint .i64 (((memR s p first).2.1 : Nat) : Int)), (8, none, vbool ((memR s p first).2.2))]) (H' := [.box (.p ((eA eB 1 37) ((memR s p first).1)))]) (fun A_ W_ hS => sl_proj (ts := [6, 7, 8]) (by kernel_rfl) hS) ?_
        exact tr_return' (vc := []) (ds := [.p ((eA eB 1 37) ((memR s p first).1)), vint .i64 (((memR s p first).2.1 : Nat) : Int), vbool ((memR s p first).2.2)]) (by kernel_rfl) trivial (by kernel_rfl) (fun _ _ h => h)
      · skip
        refine tr_skip ?_
        refine tr_then ?_
        refine tr_seq ?_
        refine tr_seq ?_
        refine tr_r (vc := [(IntKind.wrap .i64 (((p : Nat) : Int) + 2)) = (((p + 2) : Nat) : Int)]) (E' := [(0, none, vstr s), (1, none, vint .i64 ((p : Nat) : Int)), (6, none, .ref 0 []), (9, none, .ref 1 []), (10, none, vint .i64 (m0 s p)), (48, none, vbool (decide (((s.length : Nat) : Int) ≤ (((p + 2) : Nat) : Int))))]) (H' := [.box (.p ((eA eB 1 37) (fun _ => false))), .box (.p ((eA eB 1 37) (upd (fun _ => false) ((m0 s p).toNat) true)))]) [(1, vint .i64 (((p + 2) : Nat) : Int))] [] [0, 1, 6, 9, 10, 48] (by kernel_rfl) ?_ ?_
        · refine al ?_ (trivial)
          · exact wr64 (by omega) (by omega) (by omega)
        refine tr_then ?_
        refine tr_condP (decide (((s.length : Nat) : Int) ≤ (((p + 2) : Nat) : Int))) (((s.length : Nat) : Int) ≤ (((p + 2) : Nat) : Int)) (by simp) (by kernel_rfl) (fun hc4 => ?_) (fun hc4 => ?_)
        · skip
          refine tr_seq ?_
          refine tr_r (vc := []) (E' := [(6, none, .ref 0 []), (7, none, vint .i64 ((p : Nat) : Int)), (8, none, vbool false)]) (H' := [.box (.p ((eA eB 1 37) (upd (fun _ => false) ((m0 s p).toNat) true))), .box (.p ((eA eB 1 37) (upd (fun _ => false) ((m0 s p).toNat) true)))]) [] [] [6, 7, 8] (by kernel_rfl) ?_ ?_
          · exact trivial
          refine tr_then ?_
          refine tr_pre (E' := [(6, none, .ref 0 []), (7, none, vint .i64 ((p : Nat) : Int)), (8, none, vbool false)]) (H' := [.box (.p ((eA eB 1 37) (upd (fun _ => false) ((m0 s p).toNat) true)))]) (fun A_ W_ hS => sl_weak (vc := []) [0] [6, 7, 8] (by kernel_rfl) trivial hS) ?_
          refine tr_pre (E' := [(6, none, .ref 0 []), (7, none, vint .i64 ((p : Nat) : Int)), (8, none, vbool false)]) (H' := [.box (.p ((eA eB 1 37) ((memR s p first).1)))]) (fun A_ W_ hS => sl_obj_imp (d := .p ((eA eB 1 37) (upd (fun _ => false) ((m0 s p).toNat) true))) 0 (.p ((eA eB 1 37) ((memR s p first).1))) (by kernel_rfl) ?_ hS) ?_
          · refine impC_eq (congrArg (fun x => D.p ((eA eB 1 37) x)) (a₁ := (upd (fun _ => false) ((m0 s p).toNat) true)) (a₂ := ((memR s p first).1)) ?_)
            first | (rw [memR, if_pos hc1]; done) | (rw [memR, if_pos hc1]; rfl) | (rw [memR, if_neg hc1, if_pos hc2]; done) | (rw [memR, if_neg hc1, if_pos hc2]; rfl) | (rw [memR, if_neg hc1, if_neg hc2, if_pos hc3]; done) | (rw [memR, if_neg hc1, if_neg hc2, if_pos hc3]; rfl) | (rw [memR, if_neg hc1, if_neg hc2, if_neg hc3, if_pos hc4]; done) | (rw [memR, if_neg hc1, if_neg hc2, if_neg hc3, if_pos hc4]; rfl) | (rw [memR, if_neg hc1, if_neg hc2, if_neg hc3, if_neg hc4, if_pos hc5]; done) | (rw [memR, if_neg hc1, if_neg hc2, if_neg hc3, if_neg hc4, if_pos hc5]; rfl) | (rw [memR, if_neg hc1, if_neg hc2, if_neg hc3, if_neg hc4, if_neg hc5, show m0 s (p + 2) + 1 = m0 s p + k by omega]; done) | (rw [memR, if_neg hc1, if_neg hc2, if_neg hc3, if_neg hc4, if_neg hc5, show m0 s (p + 2) + 1 = m0 s p + k by omega]; rfl)
          refine tr_pre (E' := (7, none, vint .i64 (((memR s p first).2.1 : Nat) : Int)) :: [(6, none, .ref 0 []), (7, none, vint .i64 ((p : Nat) : Int)), (8, none, vbool false)]) (H' := [.box (.p ((eA eB 1 37) ((memR s p first).1)))]) (fun A_ W_ hS => sl_set_imp (d := vint .i64 ((p : Nat) : Int)) 7 (vint .i64 (((memR s p first).2.1 : Nat) : Int)) (by kernel_rfl) ?_ hS) ?_
          · refine imp_eq (congrArg (fun x => D.p (eI x)) (a₁ := ((p : Nat) : Int)) (a₂ := (((memR s p first).2.1 : Nat) : Int)) ?_)
            first | (rw [memR, if_pos hc1]; done) | (rw [memR, if_pos hc1]; rfl) | (rw [memR, if_neg hc1, if_pos hc2]; done) | (rw [memR, if_neg hc1, if_pos hc2]; rfl) | (rw [memR, if_neg hc1, if_neg hc2, if_pos hc3]; done) | (rw [memR, if_neg hc1, if_neg hc2, if_pos hc3]; rfl) | (rw [memR, if_neg hc1, if_neg hc2, if_neg hc3, if_pos hc4]; done) | (rw [memR, if_neg hc1, if_neg hc2, if_neg hc3, if_pos hc4]; rfl) | (rw [memR, if_neg hc1, if_neg hc2, if_neg hc3, if_neg hc4, if_pos hc5]; done) | (rw [memR, if_neg hc1, if_neg hc2, if_neg hc3, if_neg hc4, if_pos hc5]; rfl) | (rw [memR, if_neg hc1, if_neg hc2, if_neg hc3, if_neg hc4, if_neg hc5, show m0 s (p + 2) + 1 = m0 s p + k by omega]; done) | (rw [memR, if_neg hc1, if_neg hc2, if_neg hc3, if_neg hc4, if_neg hc5, show m0 s (p + 2) + 1 = m0 s p + k by omega]; rfl)
          refine tr_pre (E' := [(6, none, .ref 0 []), (7, none, vint .i64 (((memR s p first).2.1 : Nat) : Int)), (8, none, vbool false)]) (H' := [.box (.p ((eA eB 1 37) ((memR s p first).1)))]) (fun A_ W_ hS => sl_proj (ts := [6, 7, 8]) (by kernel_rfl) hS) ?_
          refine tr_pre (E' := (8, none, vbool ((memR s p first).2.2)) :: [(6, none, .ref 0 []), (7, none, vint .i64 (((memR s p first).2.1 : Nat) : Int)), (8, none, vbool false)]) (H' := [.box (.p ((eA eB 1 37) ((memR s p first).1)))]) (fun A_ W_ hS => sl_set_imp (d := vbool false) 8 (vbool ((memR s p first).2.2)) (by kernel_rfl) ?_ hS) ?_
          · refine imp_eq (congrArg (fun x => D.p (eB x)) (a₁ := false) (a₂ := ((memR s p first).2.2)) ?_)
            first | (rw [memR, if_pos hc1]; done) | (rw [memR, if_pos hc1]; rfl) | (rw [memR, if_neg hc1, if_pos hc2]; done) | (rw [memR, if_neg hc1, if_pos hc2]; rfl) | (rw [memR, if_neg hc1, if_neg hc2, if_pos hc3]; done) | (rw [memR, if_neg hc1, if_neg hc2, if_pos hc3]; rfl) | (rw [memR, if_neg hc1, if_neg hc2, if_neg hc3, if_pos hc4]; done) | (rw [memR, if_neg hc1, if_neg hc2, if_neg hc3, if_pos hc4]; rfl) | (rw [memR, if_neg hc1, if_neg hc2, if_neg hc3, if_neg hc4, if_pos hc5]; done) | (rw [memR, if_neg hc1, if_neg hc2, if_neg hc3, if_neg hc4, if_pos hc5]; rfl) | (rw [memR, if_neg hc1, if_neg hc2, if_neg hc3, if_neg hc4, if_neg hc5, show m0 s (p + 2) + 1 = m0 s p + k by omega]; done) | (rw [memR, if_neg hc1, if_neg hc2, if_neg hc3, if_neg hc4, if_neg hc5, show m0 s (p + 2) + 1 = m0 s p + k by omega]; rfl)
          refine tr_pre (E' := [(6, none, .ref 0 []), (7, none, vint .i64 (((memR s p first).2.1 : Nat) : Int)), (8, none, vbool ((memR s p first).2.2))]) (H' := [.box (.p ((eA eB 1 37) ((memR s p first).1)))]) (fun A_ W_ hS => sl_proj (ts := [6, 7, 8]) (by kernel_rfl) hS) ?_
          exact tr_return' (vc := []) (ds := [.p ((eA eB 1 37) ((memR s p first).1)), vint .i64 (((memR s p first).2.1 : Nat) : Int), vbool ((memR s p first).2.2)]) (by kernel_rfl) trivial (by kernel_rfl) (fun _ _ h => h)
        · skip
          refine tr_skip ?_
          refine tr_then ?_
          refine tr_seq ?_
          refine tr_r (vc := [(IntKind.wrap .i64 (((p : Nat) : Int) + 2)) = (((p + 2) : Nat) : Int), (0 : Int) ≤ (((p + 2) : Nat) : Int), (((p + 2) : Nat) : Int) < (s.length : Int), Pure Try.prog 43 [.v (.int .u8 ((s.getD (p + 2) 0).toNat : Int))] (vint .i64 (sym ((s.getD (p + 2) 0).toNat : Int))), (sym ((s.getD (p + 2) 0).toNat : Int)) = (m0 s (p + 2))]) (E' := [(1, none, vint .i64 ((p : Nat) : Int)), (6, none, .ref 0 []), (9, none, .ref 1 []), (10, none, vint .i64 (m0 s p)), (11, none, vint .i64 (m0 s (p + 2)))]) (H' := [.box (.p ((eA eB 1 37) (fun _ => false))), .box (.p ((eA eB 1 37) (upd (fun _ => false) ((m0 s p).toNat) true)))]) [(2, vint .i64 (((p + 2) : Nat) : Int)), (5, vint .i64 (m0 s (p + 2)))] [(4, vint .i64 (sym ((s.getD (p + 2) 0).toNat : Int)))] [1, 6, 9, 10, 11] (by kernel_rfl) ?_ ?_
          · refine al ?_ (al ?_ (al ?_ (al ?_ (al ?_ (trivial)))))
            · exact wr64 (by omega) (by omega) (by omega)
            · first | omega | (intro hg; simp at hg; omega) | (simp; done) | (simp_all; done) | (simp_all; omega) | grind
            · first | omega | (intro hg; simp at hg; omega) | (simp; done) | (simp_all; done) | (simp_all; omega) | grind
            · first | exact refSymbolB_ok _ | exact refSymbol_ok _ (by omega) (by omega)
            · first | omega | (intro hg; simp at hg; omega) | (simp; done) | (simp_all; done) | (simp_all; omega) | grind
          refine tr_then ?_
          refine tr_seq ?_
          refine tr_seq ?_
          refine tr_r (vc := [(!(decide ((m0 s (p + 2)) < (m0 s p)))) = true → (!(decide ((m0 s (p + 2)) < (m0 s p)))) = true, (!(decide ((m0 s (p + 2)) < (m0 s p)))) = true → (!(decide ((m0 s (p + 2)) < (m0 s p)))) = true, (!((decide ((m0 s (p + 2)) < (m0 s p))) || ((m0 s (p + 2)) == 36))) = true → (!((decide ((m0 s (p + 2)) < (m0 s p))) || ((m0 s (p + 2)) == 36))) = true, (!((decide ((m0 s (p + 2)) < (m0 s p))) || ((m0 s (p + 2)) == 36))) = true → (!((decide ((m0 s (p + 2)) < (m0 s p))) || ((m0 s (p + 2)) == 36))) = true, ((!((decide ((m0 s (p + 2)) < (m0 s p))) || ((m0 s (p + 2)) == 36))) && (decide ((m0 s p) < 26))) = true → ((!((decide ((m0 s (p + 2)) < (m0 s p))) || ((m0 s (p + 2)) == 36))) && (decide ((m0 s p) < 26))) = true, (!((decide ((m0 s (p + 2)) < (m0 s p))) || ((m0 s (p + 2)) == 36))) = true → ((!((decide ((m0 s (p + 2)) < (m0 s p))) || ((m0 s (p + 2)) == 36))) = true → (!((decide ((m0 s (p + 2)) < (m0 s p))) || ((m0 s (p + 2)) == 36))) = true), ((!((decide ((m0 s (p + 2)) < (m0 s p))) || ((m0 s (p + 2)) == 36))) && (decide ((m0 s p) < 26))) = true → ((!((decide ((m0 s (p + 2)) < (m0 s p))) || ((m0 s (p + 2)) == 36))) && (decide ((m0 s p) < 26))) = true, (!((decide ((m0 s (p + 2)) < (m0 s p))) || ((m0 s (p + 2)) == 36))) = true → (!((decide ((m0 s (p + 2)) < (m0 s p))) || ((m0 s (p + 2)) == 36))) = true]) (E' := [(1, none, vint .i64 ((p : Nat) : Int)), (6, none, .ref 0 []), (9, none, .ref 1 []), (10, none, vint .i64 (m0 s p)), (11, none, vint .i64 (m0 s (p + 2))), (70, none, vbool (((decide ((m0 s (p + 2)) < (m0 s p))) || ((m0 s (p + 2)) == 36)) || ((decide ((m0 s p) < 26)) && (decide (26 ≤ (m0 s (p + 2)))))))]) (H' := [.box (.p ((eA eB 1 37) (fun _ => false))), .box (.p ((eA eB 1 37) (upd (fun _ => false) ((m0 s p).toNat) true)))]) [] [] [1, 6, 9, 10, 11, 70] (by kernel_rfl) ?_ ?_
          · refine al ?_ (al ?_ (al ?_ (al ?_ (al ?_ (al ?_ (al ?_ (al ?_ (trivial))))))))
            · exact id
            · exact id
            · exact id
            · exact id
            · exact id
            · intro _; exact id
            · exact id
            · exact id
          refine tr_then ?_
          refine tr_condP (((decide ((m0 s (p + 2)) < (m0 s p))) || ((m0 s (p + 2)) == 36)) || ((decide ((m0 s p) < 26)) && (decide (26 ≤ (m0 s (p + 2)))))) ((((m0 s (p + 2)) < (m0 s p)) ∨ ((m0 s (p + 2)) = 36)) ∨ (((m0 s p) < 26) ∧ (26 ≤ (m0 s (p + 2))))) (by simp) (by kernel_rfl) (fun hc5 => ?_) (fun hc5 => ?_)
          · skip
            refine tr_seq ?_
            refine tr_r (vc := []) (E' := [(6, none, .ref 0 []), (7, none, vint .i64 ((p : Nat) : Int)), (8, none, vbool false)]) (H' := [.box (.p ((eA eB 1 37) (upd (fun _ => false) ((m0 s p).toNat) true))), .box (.p ((eA eB 1 37) (upd (fun _ => false) ((m0 s p).toNat) true)))]) [] [] [6, 7, 8] (by kernel_rfl) ?_ ?_
            · exact trivial
            refine tr_then ?_
            refine tr_pre (E' := [(6, none, .ref 0 []), (7, none, vint .i64 ((p : Nat) : Int)), (8, none, vbool false)]) (H' := [.box (.p ((eA eB 1 37) (upd (fun _ => false) ((m0 s p).toNat) true)))]) (fun A_ W_ hS => sl_weak (vc := []) [0] [6, 7, 8] (by kernel_rfl) trivial hS) ?_
            refine tr_pre (E' := [(6, none, .ref 0 []), (7, none, vint .i64 ((p : Nat) : Int)), (8, none, vbool false)]) (H' := [.box (.p ((eA eB 1 37) ((memR s p first).1)))]) (fun A_ W_ hS => sl_obj_imp (d := .p ((eA eB 1 37) (upd (fun _ => false) ((m0 s p).toNat) true))) 0 (.p ((eA eB 1 37) ((memR s p first).1))) (by kernel_rfl) ?_ hS) ?_
            · refine impC_eq (congrArg (fun x => D.p ((eA eB 1 37) x)) (a₁ := (upd (fun _ => false) ((m0 s p).toNat) true)) (a₂ := ((memR s p first).1)) ?_)
              first | (rw [memR, if_pos hc1]; done) | (rw [memR, if_pos hc1]; rfl) | (rw [memR, if_neg hc1, if_pos hc2]; done) | (rw [memR, if_neg hc1, if_pos hc2]; rfl) | (rw [memR, if_neg hc1, if_neg hc2, if_pos hc3]; done) | (rw [memR, if_neg hc1, if_neg hc2, if_pos hc3]; rfl) | (rw [memR, if_neg hc1, if_neg hc2, if_neg hc3, if_pos hc4]; done) | (rw [memR, if_neg hc1, if_neg hc2, if_neg hc3, if_pos hc4]; rfl) | (rw [memR, if_neg hc1, if_neg hc2, if_neg hc3, if_neg hc4, if_pos hc5]; done) | (rw [memR, if_neg hc1, if_neg hc2, if_neg hc3, if_neg hc4, if_pos hc5]; rfl) | (rw [memR, if_neg hc1, if_neg hc2, if_neg hc3, if_neg hc4, if_neg hc5, show m0 s (p + 2) + 1 = m0 s p + k by omega]; done) | (rw [memR, if_neg hc1, if_neg hc2, if_neg hc3, if_neg hc4, if_neg hc5, show m0 s (p + 2) + 1 = m0 s p + k by omega]; rfl)
            refine tr_pre (E' := (7, none, vint .i64 (((memR s p first).2.1 : Nat) : Int)) :: [(6, none, .ref 0 []), (7, none, vint .i64 ((p : Nat) : Int)), (8, none, vbool false)]) (H' := [.box (.p ((eA eB 1 37) ((memR s p first).1)))]) (fun A_ W_ hS => sl_set_imp (d := vint .i64 ((p : Nat) : Int)) 7 (vint .i64 (((memR s p first).2.1 : Nat) : Int)) (by kernel_rfl) ?_ hS) ?_
            · refine imp_eq (congrArg (fun x => D.p (eI x)) (a₁ := ((p : Nat) : Int)) (a₂ := (((memR s p first).2.1 : Nat) : Int)) ?_)
              first | (rw [memR, if_pos hc1]; done) | (rw [memR, if_pos hc1]; rfl) | (rw [memR, if_neg hc1, if_pos hc2]; done) | (rw [memR, if_neg hc1, if_pos hc2]; rfl) | (rw [memR, if_neg hc1, if_neg hc2, if_pos hc3]; done) | (rw [memR, if_neg hc1, if_neg hc2, if_pos hc3]; rfl) | (rw [memR, if_neg hc1, if_neg hc2, if_neg hc3, if_pos hc4]; done) | (rw [memR, if_neg hc1, if_neg hc2, if_neg hc3, if_pos hc4]; rfl) | (rw [memR, if_neg hc1, if_neg hc2, if_neg hc3, if_neg hc4, if_pos hc5]; done) | (rw [memR, if_neg hc1, if_neg hc2, if_neg hc3, if_neg hc4, if_pos hc5]; rfl) | (rw [memR, if_neg hc1, if_neg hc2, if_neg hc3, if_neg hc4, if_neg hc5, show m0 s (p + 2) + 1 = m0 s p + k by omega]; done) | (rw [memR, if_neg hc1, if_neg hc2, if_neg hc3, if_neg hc4, if_neg hc5, show m0 s (p + 2) + 1 = m0 s p + k by omega]; rfl)
            refine tr_pre (E' := [(6, none, .ref 0 []), (7, none, vint .i64 (((memR s p first).2.1 : Nat) : Int)), (8, none, vbool false)]) (H' := [.box (.p ((eA eB 1 37) ((memR s p first).1)))]) (fun A_ W_ hS => sl_proj (ts := [6, 7, 8]) (by kernel_rfl) hS) ?_
            refine tr_pre (E' := (8, none, vbool ((memR s p first).2.2)) :: [(6, none, .ref 0 []), (7, none, vint .i64 (((memR s p first).2.1 : Nat) : Int)), (8, none, vbool false)]) (H' := [.box (.p ((eA eB 1 37) ((memR s p first).1)))]) (fun A_ W_ hS => sl_set_imp (d := vbool false) 8 (vbool ((memR s p first).2.2)) (by kernel_rfl) ?_ hS) ?_
            · refine imp_eq (congrArg (fun x => D.p (eB x)) (a₁ := false) (a₂ := ((memR s p first).2.2)) ?_)
              first | (rw [memR, if_pos hc1]; done) | (rw [memR, if_pos hc1]; rfl) | (rw [memR, if_neg hc1, if_pos hc2]; done) | (rw [memR, if_neg hc1, if_pos hc2]; rfl) | (rw [memR, if_neg hc1, if_neg hc2, if_pos hc3]; done) | (rw [memR, if_neg hc1, if_neg hc2, if_pos hc3]; rfl) | (rw [memR, if_neg hc1, if_neg hc2, if_neg hc3, if_pos hc4]; done) | (rw [memR, if_neg hc1, if_neg hc2, if_neg hc3, if_pos hc4]; rfl) | (rw [memR, if_neg hc1, if_neg hc2, if_neg hc3, if_neg hc4, if_pos hc5]; done) | (rw [memR, if_neg hc1, if_neg hc2, if_neg hc3, if_neg hc4, if_pos hc5]; rfl) | (rw [memR, if_neg hc1, if_neg hc2, if_neg hc3, if_neg hc4, if_neg hc5, show m0 s (p + 2) + 1 = m0 s p + k by omega]; done) | (rw [memR, if_neg hc1, if_neg hc2, if_neg hc3, if_neg hc4, if_neg hc5, show m0 s (p + 2) + 1 = m0 s p + k by omega]; rfl)
            refine tr_pre (E' := [(6, none, .ref 0 []), (7, none, vint .i64 (((memR s p first).2.1 : Nat) : Int)), (8, none, vbool ((memR s p first).2.2))]) (H' := [.box (.p ((eA eB 1 37) ((memR s p first).1)))]) (fun A_ W_ hS => sl_proj (ts := [6, 7, 8]) (by kernel_rfl) hS) ?_
            exact tr_return' (vc := []) (ds := [.p ((eA eB 1 37) ((memR s p first).1)), vint .i64 (((memR s p first).2.1 : Nat) : Int), vbool ((memR s p first).2.2)]) (by kernel_rfl) trivial (by kernel_rfl) (fun _ _ h => h)
          · skip
            refine tr_skip ?_
            refine tr_then ?_
            refine tr_seq ?_
            refine tr_seq ?_
            refine tr_r (vc := []) (E' := [(1, none, vint .i64 ((p : Nat) : Int)), (6, none, .ref 0 []), (9, none, .ref 1 []), (11, none, vint .i64 (m0 s (p + 2))), (12, none, vint .i64 (m0 s p))]) (H' := [.box (.p ((eA eB 1 37) (fun _ => false))), .box (.p ((eA eB 1 37) (upd (fun _ => false) ((m0 s p).toNat) true)))]) [] [] [1, 6, 9, 11, 12] (by kernel_rfl) ?_ ?_
            · exact trivial
            refine tr_then ?_
            refine tr_block ?_
            refine tr_loop (α := Nat) (fun z : Nat => (fun (k : Nat) => [(1, none, vint .i64 ((p : Nat) : Int)), (6, none, .ref 0 []), (9, none, .ref 1 []), (11, none, vint .i64 (m0 s (p + 2))), (12, none, vint .i64 (m0 s p + k))]) z) (fun z : Nat => (fun (k : Nat) => [.box (.p ((eA eB 1 37) (fun _ => false))), .box (.p ((eA eB 1 37) (range (memS s p) (m0 s p) (m0 s p + k))))]) z) (fun z : Nat => (fun (k : Nat) => (m0 s p + k ≤ m0 s (p + 2) + 1)) z) (fun z : Nat => (fun (k : Nat) => (m0 s (p + 2) + 1 - m0 s p - k).toNat) z) 0 ?_ ?_ ?_
            · show (m0 s p + 0 ≤ m0 s (p + 2) + 1)
              · first | omega | (intro hg; simp at hg; omega) | (simp; done) | (simp_all; done) | (simp_all; omega) | grind
            · intro A_ W_ hS
              replace hS := sl_set (d := vint .i64 (m0 s p)) 12 (vint .i64 (m0 s p + 0)) (by kernel_rfl) (eqD_int (by first | omega | (intro hg; simp at hg; omega) | (simp; done) | (simp_all; done) | (simp_all; omega) | grind)) hS
              replace hS := sl_obj_imp (d := .p ((eA eB 1 37) (upd (fun _ => false) ((m0 s p).toNat) true))) 1 (.p ((eA eB 1 37) (range (memS s p) (m0 s p) (m0 s p + 0)))) (by kernel_rfl) (impC_eq (congrArg (fun x => D.p ((eA eB 1 37) x)) (a₁ := (upd (fun _ => false) ((m0 s p).toNat) true)) (a₂ := (range (memS s p) (m0 s p) (m0 s p + 0))) (by rw [Int.add_zero, range_none]; rfl))) hS
              exact sl_weak (vc := []) [0, 1] [1, 6, 9, 11, 12] (by kernel_rfl) trivial hS
            · intro z hz
              revert z; intro k hz
              have hz : (m0 s p + k ≤ m0 s (p + 2) + 1) := hz
              have hi0_0 := hz
              refine tr_seq ?_
              refine tr_seq ?_
              refine tr_r (vc := []) (E' := [(1, none, vint .i64 ((p : Nat) : Int)), (6, none, .ref 0 []), (9, none, .ref 1 []), (11, none, vint .i64 (m0 s (p + 2))), (12, none, vint .i64 (m0 s p + k)), (76, none, vbool (decide ((m0 s p + k) ≤ (m0 s (p + 2)))))]) (H' := [.box (.p ((eA eB 1 37) (fun _ => false))), .box (.p ((eA eB 1 37) (range (memS s p) (m0 s p) (m0 s p + k))))]) [] [] [1, 6, 9, 11, 12, 76] (by kernel_rfl) ?_ ?_
              · exact trivial
              refine tr_then ?_
              refine tr_condP (decide ((m0 s p + k) ≤ (m0 s (p + 2)))) ((m0 s p + k) ≤ (m0 s (p + 2))) (by simp) (by kernel_rfl) (fun hc6 => ?_) (fun hc6 => ?_)
              · skip
                refine tr_skip ?_
                refine tr_then ?_
                refine tr_seq ?_
                refine tr_block ?_
                refine tr_r (vc := [(0 : Int) ≤ (m0 s p + k), (m0 s p + k) < (37 : Int), (m0 s p + k).toNat < 37]) (E' := [(1, none, vint .i64 ((p : Nat) : Int)), (6, none, .ref 0 []), (9, none, .ref 1 []), (11, none, vint .i64 (m0 s (p + 2))), (12, none, vint .i64 (m0 s p + k))]) (H' := [.box (.p ((eA eB 1 37) (fun _ => false))), .box (.p (.vec 1 37 (upd (fun i => eB ((range (memS s p) (m0 s p) (m0 s p + k)) i)) ((m0 s p + k).toNat) (.v (.bool true)))))]) [] [] [1, 6, 9, 11, 12] (by kernel_rfl) ?_ ?_
                · refine al ?_ (al ?_ (al ?_ (trivial)))
                  · first | omega | (intro hg; simp at hg; omega) | (simp; done) | (simp_all; done) | (simp_all; omega) | grind
                  · first | omega | (intro hg; simp at hg; omega) | (simp; done) | (simp_all; done) | (simp_all; omega) | grind
                  · first | omega | (intro hg; simp at hg; omega) | (simp; done) | (simp_all; done) | (simp_all; omega) | grind
                refine nm_pre (E' := [(1, none, vint .i64 ((p : Nat) : Int)), (6, none, .ref 0 []), (9, none, .ref 1 []), (11, none, vint .i64 (m0 s (p + 2))), (12, none, vint .i64 (m0 s p + k))]) (H' := [.box (.p ((eA eB 1 37) (fun _ => false))), .box (.p ((eA eB 1 37) (upd (range (memS s p) (m0 s p) (m0 s p + k)) ((m0 s p + k).toNat) true)))]) (fun A_ W_ hS => sl_obj (o := .box (.p (.vec 1 37 (upd (fun i => eB ((range (memS s p) (m0 s p) (m0 s p + k)) i)) ((m0 s p + k).toNat) (.v (.bool true)))))) 1 (.box (.p ((eA eB 1 37) (upd (range (memS s p) (m0 s p) (m0 s p + k)) ((m0 s p + k).toNat) true)))) (by kernel_rfl) (by exact congrArg (fun y => O.box (D.p y)) (vec_upd (e := eB) (f := (range (memS s p) (m0 s p) (m0 s p + k))) (k := ((m0 s p + k).toNat)) (x := true))) hS) ?_
                refine in_n ?_
                refine tr_then ?_
                refine tr_r (vc := [(IntKind.wrap .i64 ((m0 s p + k) + 1)) = ((m0 s p + k) + 1)]) (E' := [(1, none, vint .i64 ((p : Nat) : Int)), (6, none, .ref 0 []), (9, none, .ref 1 []), (11, none, vint .i64 (m0 s (p + 2))), (12, none, vint .i64 ((m0 s p + k) + 1))]) (H' := [.box (.p ((eA eB 1 37) (fun _ => false))), .box (.p ((eA eB 1 37) (upd (range (memS s p) (m0 s p) (m0 s p + k)) ((m0 s p + k).toNat) true)))]) [(1, vint .i64 ((m0 s p + k) + 1))] [] [1, 6, 9, 11, 12] (by kernel_rfl) ?_ ?_
                · refine al ?_ (trivial)
                  · exact wr64 (by omega) (by omega) (by omega)
                refine lp_end (k + 1) ?_ ?_ ?_
                · show (m0 s p + (k + 1) ≤ m0 s (p + 2) + 1)
                  · first | omega | (intro hg; simp at hg; omega) | (simp; done) | (simp_all; done) | (simp_all; omega) | grind
                · show (m0 s (p + 2) + 1 - m0 s p - (k + 1)).toNat < (m0 s (p + 2) + 1 - m0 s p - k).toNat
                  omega
                · intro A_ W_ hS
                  replace hS := sl_set (d := vint .i64 ((m0 s p + k) + 1)) 12 (vint .i64 (m0 s p + (k + 1))) (by kernel_rfl) (eqD_int (by first | omega | (intro hg; simp at hg; omega) | (simp; done) | (simp_all; done) | (simp_all; omega) | grind)) hS
                  replace hS := sl_obj_imp (d := .p ((eA eB 1 37) (upd (range (memS s p) (m0 s p) (m0 s p + k)) ((m0 s p + k).toNat) true))) 1 (.p ((eA eB 1 37) (range (memS s p) (m0 s p) (m0 s p + (k + 1))))) (by kernel_rfl) (impC_eq (congrArg (fun x => D.p ((eA eB 1 37) x)) (a₁ := (upd (range (memS s p) (m0 s p) (m0 s p + k)) ((m0 s p + k).toNat) true)) (a₂ := (range (memS s p) (m0 s p) (m0 s p + (k + 1)))) (by rw [← Int.add_assoc]; exact range_step _ _ _ (by omega) (by omega)))) hS
                  exact sl_weak (vc := []) [0, 1] [1, 6, 9, 11, 12] (by kernel_rfl) trivial hS
              · skip
                refine tr_exit ?_
                refine th_e ?_
                refine th_e ?_
                refine in_hit ?_
                refine tr_then ?_
                refine tr_seq ?_
                refine tr_r (vc := [(IntKind.wrap .i64 (((p : Nat) : Int) + 3)) = (((p + 3) : Nat) : Int)]) (E' := [(6, none, .ref 0 []), (7, none, vint .i64 (((p + 3) : Nat) : Int)), (8, none, vbool true)]) (H' := [.box (.p ((eA eB 1 37) (range (memS s p) (m0 s p) (m0 s p + k)))), .box (.p ((eA eB 1 37) (range (memS s p) (m0 s p) (m0 s p + k))))]) [(2, vint .i64 (((p + 3) : Nat) : Int))] [] [6, 7, 8] (by kernel_rfl) ?_ ?_
                · refine al ?_ (trivial)
                  · exact wr64 (by omega) (by omega) (by omega)
                refine tr_then ?_
                refine tr_pre (E' := [(6, none, .ref 0 []), (7, none, vint .i64 (((p + 3) : Nat) : Int)), (8, none, vbool true)]) (H' := [.box (.p ((eA eB 1 37) (range (memS s p) (m0 s p) (m0 s p + k))))]) (fun A_ W_ hS => sl_weak (vc := []) [0] [6, 7, 8] (by kernel_rfl) trivial hS) ?_
                refine tr_pre (E' := [(6, none, .ref 0 []), (7, none, vint .i64 (((p + 3) : Nat) : Int)), (8, none, vbool true)]) (H' := [.box (.p ((eA eB 1 37) ((memR s p first).1)))]) (fun A_ W_ hS => sl_obj_imp (d := .p ((eA eB 1 37) (range (memS s p) (m0 s p) (m0 s p + k)))) 0 (.p ((eA eB 1 37) ((memR s p first).1))) (by kernel_rfl) ?_ hS) ?_
                · refine impC_eq (congrArg (fun x => D.p ((eA eB 1 37) x)) (a₁ := (range (memS s p) (m0 s p) (m0 s p + k))) (a₂ := ((memR s p first).1)) ?_)
                  first | (rw [memR, if_pos hc1]; done) | (rw [memR, if_pos hc1]; rfl) | (rw [memR, if_neg hc1, if_pos hc2]; done) | (rw [memR, if_neg hc1, if_pos hc2]; rfl) | (rw [memR, if_neg hc1, if_neg hc2, if_pos hc3]; done) | (rw [memR, if_neg hc1, if_neg hc2, if_pos hc3]; rfl) | (rw [memR, if_neg hc1, if_neg hc2, if_neg hc3, if_pos hc4]; done) | (rw [memR, if_neg hc1, if_neg hc2, if_neg hc3, if_pos hc4]; rfl) | (rw [memR, if_neg hc1, if_neg hc2, if_neg hc3, if_neg hc4, if_pos hc5]; done) | (rw [memR, if_neg hc1, if_neg hc2, if_neg hc3, if_neg hc4, if_pos hc5]; rfl) | (rw [memR, if_neg hc1, if_neg hc2, if_neg hc3, if_neg hc4, if_neg hc5, show m0 s (p + 2) + 1 = m0 s p + k by omega]; done) | (rw [memR, if_neg hc1, if_neg hc2, if_neg hc3, if_neg hc4, if_neg hc5, show m0 s (p + 2) + 1 = m0 s p + k by omega]; rfl)
                refine tr_pre (E' := (7, none, vint .i64 (((memR s p first).2.1 : Nat) : Int)) :: [(6, none, .ref 0 []), (7, none, vint .i64 (((p + 3) : Nat) : Int)), (8, none, vbool true)]) (H' := [.box (.p ((eA eB 1 37) ((memR s p first).1)))]) (fun A_ W_ hS => sl_set_imp (d := vint .i64 (((p + 3) : Nat) : Int)) 7 (vint .i64 (((memR s p first).2.1 : Nat) : Int)) (by kernel_rfl) ?_ hS) ?_
                · refine imp_eq (congrArg (fun x => D.p (eI x)) (a₁ := (((p + 3) : Nat) : Int)) (a₂ := (((memR s p first).2.1 : Nat) : Int)) ?_)
                  first | (rw [memR, if_pos hc1]; done) | (rw [memR, if_pos hc1]; rfl) | (rw [memR, if_neg hc1, if_pos hc2]; done) | (rw [memR, if_neg hc1, if_pos hc2]; rfl) | (rw [memR, if_neg hc1, if_neg hc2, if_pos hc3]; done) | (rw [memR, if_neg hc1, if_neg hc2, if_pos hc3]; rfl) | (rw [memR, if_neg hc1, if_neg hc2, if_neg hc3, if_pos hc4]; done) | (rw [memR, if_neg hc1, if_neg hc2, if_neg hc3, if_pos hc4]; rfl) | (rw [memR, if_neg hc1, if_neg hc2, if_neg hc3, if_neg hc4, if_pos hc5]; done) | (rw [memR, if_neg hc1, if_neg hc2, if_neg hc3, if_neg hc4, if_pos hc5]; rfl) | (rw [memR, if_neg hc1, if_neg hc2, if_neg hc3, if_neg hc4, if_neg hc5, show m0 s (p + 2) + 1 = m0 s p + k by omega]; done) | (rw [memR, if_neg hc1, if_neg hc2, if_neg hc3, if_neg hc4, if_neg hc5, show m0 s (p + 2) + 1 = m0 s p + k by omega]; rfl)
                refine tr_pre (E' := [(6, none, .ref 0 []), (7, none, vint .i64 (((memR s p first).2.1 : Nat) : Int)), (8, none, vbool true)]) (H' := [.box (.p ((eA eB 1 37) ((memR s p first).1)))]) (fun A_ W_ hS => sl_proj (ts := [6, 7, 8]) (by kernel_rfl) hS) ?_
                refine tr_pre (E' := (8, none, vbool ((memR s p first).2.2)) :: [(6, none, .ref 0 []), (7, none, vint .i64 (((memR s p first).2.1 : Nat) : Int)), (8, none, vbool true)]) (H' := [.box (.p ((eA eB 1 37) ((memR s p first).1)))]) (fun A_ W_ hS => sl_set_imp (d := vbool true) 8 (vbool ((memR s p first).2.2)) (by kernel_rfl) ?_ hS) ?_
                · refine imp_eq (congrArg (fun x => D.p (eB x)) (a₁ := true) (a₂ := ((memR s p first).2.2)) ?_)
                  first | (rw [memR, if_pos hc1]; done) | (rw [memR, if_pos hc1]; rfl) | (rw [memR, if_neg hc1, if_pos hc2]; done) | (rw [memR, if_neg hc1, if_pos hc2]; rfl) | (rw [memR, if_neg hc1, if_neg hc2, if_pos hc3]; done) | (rw [memR, if_neg hc1, if_neg hc2, if_pos hc3]; rfl) | (rw [memR, if_neg hc1, if_neg hc2, if_neg hc3, if_pos hc4]; done) | (rw [memR, if_neg hc1, if_neg hc2, if_neg hc3, if_pos hc4]; rfl) | (rw [memR, if_neg hc1, if_neg hc2, if_neg hc3, if_neg hc4, if_pos hc5]; done) | (rw [memR, if_neg hc1, if_neg hc2, if_neg hc3, if_neg hc4, if_pos hc5]; rfl) | (rw [memR, if_neg hc1, if_neg hc2, if_neg hc3, if_neg hc4, if_neg hc5, show m0 s (p + 2) + 1 = m0 s p + k by omega]; done) | (rw [memR, if_neg hc1, if_neg hc2, if_neg hc3, if_neg hc4, if_neg hc5, show m0 s (p + 2) + 1 = m0 s p + k by omega]; rfl)
                refine tr_pre (E' := [(6, none, .ref 0 []), (7, none, vint .i64 (((memR s p first).2.1 : Nat) : Int)), (8, none, vbool ((memR s p first).2.2))]) (H' := [.box (.p ((eA eB 1 37) ((memR s p first).1)))]) (fun A_ W_ hS => sl_proj (ts := [6, 7, 8]) (by kernel_rfl) hS) ?_
                exact tr_return' (vc := []) (ds := [.p ((eA eB 1 37) ((memR s p first).1)), vint .i64 (((memR s p first).2.1 : Nat) : Int), vbool ((memR s p first).2.2)]) (by kernel_rfl) trivial (by kernel_rfl) (fun _ _ h => h)
def orN (o m : Nat → Bool) (k : Nat) : Nat → Bool := fun i => if i < k then o i || m i else o i
theorem orN_0 (o m : Nat → Bool) : orN o m 0 = o := by funext i; simp [orN]
theorem orN_s (o m : Nat → Bool) (k : Nat) : upd (orN o m k) k (orN o m k k || m k) = orN o m (k + 1) := by
  funext i
  unfold upd orN
  by_cases h : i = k
  · subst h
    rw [if_pos rfl, if_neg (Nat.lt_irrefl _), if_pos (Nat.lt_succ_self _)]
  · rw [if_neg h]
    by_cases h1 : i < k
    · rw [if_pos h1, if_pos (by omega)]
    · rw [if_neg h1, if_neg (by omega)]
def memF (s : List UInt8) (f p : Nat) : (Nat → Bool) × Nat × Bool := memR s p (((p : Nat) : Int) == ((f : Nat) : Int))
def setL : Nat → List UInt8 → Nat → Nat → (Nat → Bool) → (Nat → Bool) × Nat × Bool
  | 0, _, _, p, o => (o, p, false)
  | n + 1, s, f, p, o => if ((p : Nat) : Int) < ((s.length : Nat) : Int) ∧ ((s.getD p 0).toNat : Int) ≠ 93 then
      (if (memF s f p).2.2 = false then (o, p, false) else setL n s f (memF s f p).2.1 (orN o (memF s f p).1 37))
    else (o, p + 1, decide (((p : Nat) : Int) < ((s.length : Nat) : Int)) && decide (((f : Nat) : Int) < ((p : Nat) : Int)))
def setR (s : List UInt8) (p : Nat) : (Nat → Bool) × Nat × Bool :=
  if ((s.getD p 0).toNat : Int) ≠ 91 then (if m0 s p < 0 then (noSet, p, false) else (memS s p, p + 1, true)) else setL (s.length + 1) s (p + 1) (p + 1) noSet
theorem memR_le {s : List UInt8} {p : Nat} {first : Bool} (h : p < s.length) (hr : (memR s p first).2.2 = true) : p < (memR s p first).2.1 ∧ (memR s p first).2.1 ≤ s.length := by
  unfold memR at hr ⊢
  split
  · rename_i h1; rw [if_pos h1] at hr; cases hr
  · rename_i h1
    rw [if_neg h1] at hr
    split
    · exact ⟨by simp, by simp only; omega⟩
    · rename_i h2
      rw [if_neg h2] at hr
      split
      · exact ⟨by simp, by simp only; omega⟩
      · rename_i h3
        rw [if_neg h3] at hr
        split
        · rename_i h4; rw [if_pos h4] at hr; cases hr
        · rename_i h4
          rw [if_neg h4] at hr
          split
          · rename_i h5; rw [if_pos h5] at hr; cases hr
          · exact ⟨by simp only; omega, by simp only; omega⟩
section
variable {n f p : Nat} {s : List UInt8} {o : Nat → Bool}
theorem setL_1 (hn : 0 < n) (h : ((p : Nat) : Int) < ((s.length : Nat) : Int) ∧ ((s.getD p 0).toNat : Int) ≠ 93) (h1 : (memF s f p).2.2 = false) : setL n s f p o = (o, p, false) := by
  obtain ⟨n, rfl⟩ : ∃ j, n = j + 1 := ⟨n - 1, by omega⟩
  rw [setL, if_pos h, if_pos h1]
theorem setL_2 (hn : 0 < n) (h : ((p : Nat) : Int) < ((s.length : Nat) : Int) ∧ ((s.getD p 0).toNat : Int) ≠ 93) (h1 : ¬ (memF s f p).2.2 = false) : setL n s f p o = setL (n - 1) s f (memF s f p).2.1 (orN o (memF s f p).1 37) := by
  obtain ⟨n, rfl⟩ : ∃ j, n = j + 1 := ⟨n - 1, by omega⟩
  rw [setL, if_pos h, if_neg h1]; rfl
theorem setL_3 (hn : 0 < n) (h : ¬ (((p : Nat) : Int) < ((s.length : Nat) : Int) ∧ ((s.getD p 0).toNat : Int) ≠ 93)) : setL n s f p o = (o, p + 1, decide (((p : Nat) : Int) < ((s.length : Nat) : Int)) && decide (((f : Nat) : Int) < ((p : Nat) : Int))) := by
  obtain ⟨n, rfl⟩ : ∃ j, n = j + 1 := ⟨n - 1, by omega⟩
  rw [setL, if_neg h]
end
theorem refSet_ok (s : List UInt8) (p : Nat) (hb0 : s.length < 4611686018427387904) (hp : p < s.length) : Pure Try.prog 46 [.s s, .v (.int .i64 ((p : Nat) : Int))] (.tup [.p ((eA eB 1 37) ((setR s p).1)), vint .i64 (((setR s p).2.1 : Nat) : Int), vbool ((setR s p).2.2)]) := by
  have b0 := (s.getD p 0).toNat_lt
  have q0 := sym_le ((s.getD p 0).toNat : Int)
  have q1 := sym_ge ((s.getD p 0).toNat : Int)
  have e0 : m0 s p = sym ((s.getD p 0).toNat : Int) := rfl
  refine pure_of (fn := Try.f46) Try.func46 rfl rfl fun F_ W0_ => ?_
  refine tr_seq ?_
  refine tr_r (vc := []) (E' := [(0, none, vstr s), (1, none, vint .i64 ((p : Nat) : Int)), (4, none, .ref 0 [])]) (H' := [.box (.p ((eA eB 1 37) (fun _ => false)))]) [] [] [0, 1, 4] (by kernel_rfl) ?_ ?_
  · exact trivial
  refine tr_then ?_
  refine tr_seq ?_
  refine tr_r (vc := []) (E' := [(0, none, vstr s), (1, none, vint .i64 ((p : Nat) : Int)), (4, none, .ref 0 []), (7, none, .ref 1 [])]) (H' := [.box (.p ((eA eB 1 37) (fun _ => false))), .box (.p ((eA eB 1 37) (fun _ => false)))]) [] [] [0, 1, 4, 7] (by kernel_rfl) ?_ ?_
  · exact trivial
  refine tr_then ?_
  refine tr_seq ?_
  refine tr_seq ?_
  refine tr_r (vc := [(0 : Int) ≤ ((p : Nat) : Int), ((p : Nat) : Int) < (s.length : Int)]) (E' := [(0, none, vstr s), (1, none, vint .i64 ((p : Nat) : Int)), (4, none, .ref 0 []), (7, none, .ref 1 []), (17, none, vbool (((s.getD p 0).toNat : Int) != 91))]) (H' := [.box (.p ((eA eB 1 37) (fun _ => false))), .box (.p ((eA eB 1 37) (fun _ => false)))]) [] [] [0, 1, 4, 7, 17] (by kernel_rfl) ?_ ?_
  · refine al ?_ (al ?_ (trivial))
    · first | omega | (intro hg; simp at hg; omega) | (simp; done) | (simp_all; done) | (simp_all; omega) | grind
    · first | omega | (intro hg; simp at hg; omega) | (simp; done) | (simp_all; done) | (simp_all; omega) | grind
  refine tr_then ?_
  refine tr_condP (((s.getD p 0).toNat : Int) != 91) (((s.getD p 0).toNat : Int) ≠ 91) (by simp) (by kernel_rfl) (fun hc1 => ?_) (fun hc1 => ?_)
  · skip
    refine tr_seq ?_
    refine tr_r (vc := [(0 : Int) ≤ ((p : Nat) : Int), ((p : Nat) : Int) < (s.length : Int), Pure Try.prog 43 [.v (.int .u8 ((s.getD p 0).toNat : Int))] (vint .i64 (sym ((s.getD p 0).toNat : Int))), (sym ((s.getD p 0).toNat : Int)) = (m0 s p)]) (E' := [(1, none, vint .i64 ((p : Nat) : Int)), (4, none, .ref 0 []), (7, none, .ref 1 []), (8, none, vint .i64 (m0 s p))]) (H' := [.box (.p ((eA eB 1 37) (fun _ => false))), .box (.p ((eA eB 1 37) (fun _ => false)))]) [(4, vint .i64 (m0 s p))] [(3, vint .i64 (sym ((s.getD p 0).toNat : Int)))] [1, 4, 7, 8] (by kernel_rfl) ?_ ?_
    · refine al ?_ (al ?_ (al ?_ (al ?_ (trivial))))
      · first | omega | (intro hg; simp at hg; omega) | (simp; done) | (simp_all; done) | (simp_all; omega) | grind
      · first | omega | (intro hg; simp at hg; omega) | (simp; done) | (simp_all; done) | (simp_all; omega) | grind
      · first | exact refSymbolB_ok _ | exact refSymbol_ok _ (by omega) (by omega)
      · first | omega | (intro hg; simp at hg; omega) | (simp; done) | (simp_all; done) | (simp_all; omega) | grind
    refine tr_then ?_
    refine tr_seq ?_
    refine tr_seq ?_
    refine tr_r (vc := []) (E' := [(1, none, vint .i64 ((p : Nat) : Int)), (4, none, .ref 0 []), (7, none, .ref 1 []), (8, none, vint .i64 (m0 s p)), (23, none, vbool (decide ((m0 s p) < 0)))]) (H' := [.box (.p ((eA eB 1 37) (fun _ => false))), .box (.p ((eA eB 1 37) (fun _ => false)))]) [] [] [1, 4, 7, 8, 23] (by kernel_rfl) ?_ ?_
    · exact trivial
    refine tr_then ?_
    refine tr_condP (decide ((m0 s p) < 0)) ((m0 s p) < 0) (by simp) (by kernel_rfl) (fun hc2 => ?_) (fun hc2 => ?_)
    · skip
      refine tr_seq ?_
      refine tr_r (vc := []) (E' := [(4, none, .ref 0 []), (5, none, vint .i64 ((p : Nat) : Int)), (6, none, vbool false)]) (H' := [.box (.p ((eA eB 1 37) (fun _ => false))), .box (.p ((eA eB 1 37) (fun _ => false)))]) [] [] [4, 5, 6] (by kernel_rfl) ?_ ?_
      · exact trivial
      refine tr_then ?_
      refine tr_pre (E' := [(4, none, .ref 0 []), (5, none, vint .i64 ((p : Nat) : Int)), (6, none, vbool false)]) (H' := [.box (.p ((eA eB 1 37) (fun _ => false)))]) (fun A_ W_ hS => sl_weak (vc := []) [0] [4, 5, 6] (by kernel_rfl) trivial hS) ?_
      refine tr_pre (E' := [(4, none, .ref 0 []), (5, none, vint .i64 ((p : Nat) : Int)), (6, none, vbool false)]) (H' := [.box (.p ((eA eB 1 37) ((setR s p).1)))]) (fun A_ W_ hS => sl_obj_imp (d := .p ((eA eB 1 37) (fun _ => false))) 0 (.p ((eA eB 1 37) ((setR s p).1))) (by kernel_rfl) ?_ hS) ?_
      · refine impC_eq (congrArg (fun x => D.p ((eA eB 1 37) x)) (a₁ := (fun _ => false)) (a₂ := ((setR s p).1)) ?_)
        first | (rw [setR, if_pos hc1, if_pos hc2]; done) | (rw [setR, if_pos hc1, if_pos hc2]; rfl) | (rw [setR, if_pos hc1, if_neg hc2]; done) | (rw [setR, if_pos hc1, if_neg hc2]; rfl) | (rw [setR, if_neg hc1, ← hi0_0, setL_1 (by omega) hc3 hc4]; done) | (rw [setR, if_neg hc1, ← hi0_0, setL_3 (by omega) hc3]; done)
      refine tr_pre (E' := (5, none, vint .i64 (((setR s p).2.1 : Nat) : Int)) :: [(4, none, .ref 0 []), (5, none, vint .i64 ((p : Nat) : Int)), (6, none, vbool false)]) (H' := [.box (.p ((eA eB 1 37) ((setR s p).1)))]) (fun A_ W_ hS => sl_set_imp (d := vint .i64 ((p : Nat) : Int)) 5 (vint .i64 (((setR s p).2.1 : Nat) : Int)) (by kernel_rfl) ?_ hS) ?_
      · refine imp_eq (congrArg (fun x => D.p (eI x)) (a₁ := ((p : Nat) : Int)) (a₂ := (((setR s p).2.1 : Nat) : Int)) ?_)
        first | (rw [setR, if_pos hc1, if_pos hc2]; done) | (rw [setR, if_pos hc1, if_pos hc2]; rfl) | (rw [setR, if_pos hc1, if_neg hc2]; done) | (rw [setR, if_pos hc1, if_neg hc2]; rfl) | (rw [setR, if_neg hc1, ← hi0_0, setL_1 (by omega) hc3 hc4]; done) | (rw [setR, if_neg hc1, ← hi0_0, setL_3 (by omega) hc3]; done)
      refine tr_pre (E' := [(4, none, .ref 0 []), (5, none, vint .i64 (((setR s p).2.1 : Nat) : Int)), (6, none, vbool false)]) (H' := [.box (.p ((eA eB 1 37) ((setR s p).1)))]) (fun A_ W_ hS => sl_proj (ts := [4, 5, 6]) (by kernel_rfl) hS) ?_
      refine tr_pre (E' := (6, none, vbool ((setR s p).2.2)) :: [(4, none, .ref 0 []), (5, none, vint .i64 (((setR s p).2.1 : Nat) : Int)), (6, none, vbool false)]) (H' := [.box (.p ((eA eB 1 37) ((setR s p).1)))]) (fun A_ W_ hS => sl_set_imp (d := vbool false) 6 (vbool ((setR s p).2.2)) (by kernel_rfl) ?_ hS) ?_
      · refine imp_eq (congrArg (fun x => D.p (eB x)) (a₁ := false) (a₂ := ((setR s p).2.2)) ?_)
        first | (rw [setR, if_pos hc1, if_pos hc2]; done) | (rw [setR, if_pos hc1, if_pos hc2]; rfl) | (rw [setR, if_pos hc1, if_neg hc2]; done) | (rw [setR, if_pos hc1, if_neg hc2]; rfl) | (rw [setR, if_neg hc1, ← hi0_0, setL_1 (by omega) hc3 hc4]; done) | (rw [setR, if_neg hc1, ← hi0_0, setL_3 (by omega) hc3]; done)
      refine tr_pre (E' := [(4, none, .ref 0 []), (5, none, vint .i64 (((setR s p).2.1 : Nat) : Int)), (6, none, vbool ((setR s p).2.2))]) (H' := [.box (.p ((eA eB 1 37) ((setR s p).1)))]) (fun A_ W_ hS => sl_proj (ts := [4, 5, 6]) (by kernel_rfl) hS) ?_
      exact tr_return' (vc := []) (ds := [.p ((eA eB 1 37) ((setR s p).1)), vint .i64 (((setR s p).2.1 : Nat) : Int), vbool ((setR s p).2.2)]) (by kernel_rfl) trivial (by kernel_rfl) (fun _ _ h => h)
    · skip
      refine tr_skip ?_
      refine tr_then ?_
      refine tr_seq ?_
      refine tr_r (vc := [(0 : Int) ≤ (m0 s p), (m0 s p) < (37 : Int), (m0 s p).toNat < 37]) (E' := [(1, none, vint .i64 ((p : Nat) : Int)), (4, none, .ref 0 []), (7, none, .ref 1 [])]) (H' := [.box (.p ((eA eB 1 37) (fun _ => false))), .box (.p (.vec 1 37 (upd (fun i => eB ((fun _ => false) i)) ((m0 s p).toNat) (.v (.bool true)))))]) [] [] [1, 4, 7] (by kernel_rfl) ?_ ?_
      · refine al ?_ (al ?_ (al ?_ (trivial)))
        · first | omega | (intro hg; simp at hg; omega) | (simp; done) | (simp_all; done) | (simp_all; omega) | grind
        · first | omega | (intro hg; simp at hg; omega) | (simp; done) | (simp_all; done) | (simp_all; omega) | grind
        · first | omega | (intro hg; simp at hg; omega) | (simp; done) | (simp_all; done) | (simp_all; omega) | grind
      refine nm_pre (E' := [(1, none, vint .i64 ((p : Nat) : Int)), (4, none, .ref 0 []), (7, none, .ref 1 [])]) (H' := [.box (.p ((eA eB 1 37) (fun _ => false))), .box (.p ((eA eB 1 37) (upd (fun _ => false) ((m0 s p).toNat) true)))]) (fun A_ W_ hS => sl_obj (o := .box (.p (.vec 1 37 (upd (fun i => eB ((fun _ => false) i)) ((m0 s p).toNat) (.v (.bool true)))))) 1 (.box (.p ((eA eB 1 37) (upd (fun _ => false) ((m0 s p).toNat) true)))) (by kernel_rfl) (by exact congrArg (fun y => O.box (D.p y)) (vec_upd (e := eB) (f := (fun _ => false)) (k := ((m0 s p).toNat)) (x := true))) hS) ?_
      refine tr_then ?_
      refine tr_seq ?_
      refine tr_r (vc := [(IntKind.wrap .i64 (((p : Nat) : Int) + 1)) = (((p + 1) : Nat) : Int)]) (E' := [(4, none, .ref 0 []), (5, none, vint .i64 (((p + 1) : Nat) : Int)), (6, none, vbool true)]) (H' := [.box (.p ((eA eB 1 37) (upd (fun _ => false) ((m0 s p).toNat) true))), .box (.p ((eA eB 1 37) (upd (fun _ => false) ((m0 s p).toNat) true)))]) [(2, vint .i64 (((p + 1) : Nat) : Int))] [] [4, 5, 6] (by kernel_rfl) ?_ ?_
      · refine al ?_ (trivial)
        · exact wr64 (by omega) (by omega) (by omega)
      refine tr_then ?_
      refine tr_pre (E' := [(4, none, .ref 0 []), (5, none, vint .i64 (((p + 1) : Nat) : Int)), (6, none, vbool true)]) (H' := [.box (.p ((eA eB 1 37) (upd (fun _ => false) ((m0 s p).toNat) true)))]) (fun A_ W_ hS => sl_weak (vc := []) [0] [4, 5, 6] (by kernel_rfl) trivial hS) ?_
      refine tr_pre (E' := [(4, none, .ref 0 []), (5, none, vint .i64 (((p + 1) : Nat) : Int)), (6, none, vbool true)]) (H' := [.box (.p ((eA eB 1 37) ((setR s p).1)))]) (fun A_ W_ hS => sl_obj_imp (d := .p ((eA eB 1 37) (upd (fun _ => false) ((m0 s p).toNat) true))) 0 (.p ((eA eB 1 37) ((setR s p).1))) (by kernel_rfl) ?_ hS) ?_
      · refine impC_eq (congrArg (fun x => D.p ((eA eB 1 37) x)) (a₁ := (upd (fun _ => false) ((m0 s p).toNat) true)) (a₂ := ((setR s p).1)) ?_)
        first | (rw [setR, if_pos hc1, if_pos hc2]; done) | (rw [setR, if_pos hc1, if_pos hc2]; rfl) | (rw [setR, if_pos hc1, if_neg hc2]; done) | (rw [setR, if_pos hc1, if_neg hc2]; rfl) | (rw [setR, if_neg hc1, ← hi0_0, setL_1 (by omega) hc3 hc4]; done) | (rw [setR, if_neg hc1, ← hi0_0, setL_3 (by omega) hc3]; done)
      refine tr_pre (E' := (5, none, vint .i64 (((setR s p).2.1 : Nat) : Int)) :: [(4, none, .ref 0 []), (5, none, vint .i64 (((p + 1) : Nat) : Int)), (6, none, vbool true)]) (H' := [.box (.p ((eA eB 1 37) ((setR s p).1)))]) (fun A_ W_ hS => sl_set_imp (d := vint .i64 (((p + 1) : Nat) : Int)) 5 (vint .i64 (((setR s p).2.1 : Nat) : Int)) (by kernel_rfl) ?_ hS) ?_
      · refine imp_eq (congrArg (fun x => D.p (eI x)) (a₁ := (((p + 1) : Nat) : Int)) (a₂ := (((setR s p).2.1 : Nat) : Int)) ?_)
        first | (rw [setR, if_pos hc1, if_pos hc2]; done) | (rw [setR, if_pos hc1, if_pos hc2]; rfl) | (rw [setR, if_pos hc1, if_neg hc2]; done) | (rw [setR, if_pos hc1, if_neg hc2]; rfl) | (rw [setR, if_neg hc1, ← hi0_0, setL_1 (by omega) hc3 hc4]; done) | (rw [setR, if_neg hc1, ← hi0_0, setL_3 (by omega) hc3]; done)
      refine tr_pre (E' := [(4, none, .ref 0 []), (5, none, vint .i64 (((setR s p).2.1 : Nat) : Int)), (6, none, vbool true)]) (H' := [.box (.p ((eA eB 1 37) ((setR s p).1)))]) (fun A_ W_ hS => sl_proj (ts := [4, 5, 6]) (by kernel_rfl) hS) ?_
      refine tr_pre (E' := (6, none, vbool ((setR s p).2.2)) :: [(4, none, .ref 0 []), (5, none, vint .i64 (((setR s p).2.1 : Nat) : Int)), (6, none, vbool true)]) (H' := [.box (.p ((eA eB 1 37) ((setR s p).1)))]) (fun A_ W_ hS => sl_set_imp (d := vbool true) 6 (vbool ((setR s p).2.2)) (by kernel_rfl) ?_ hS) ?_
      · refine imp_eq (congrArg (fun x => D.p (eB x)) (a₁ := true) (a₂ := ((setR s p).2.2)) ?_)
        first | (rw [setR, if_pos hc1, if_pos hc2]; done) | (rw [setR, if_pos hc1, if_pos hc2]; rfl) | (rw [setR, if_pos hc1, if_neg hc2]; done) | (rw [setR, if_pos hc1, if_neg hc2]; rfl) | (rw [setR, if_neg hc1, ← hi0_0, setL_1 (by omega) hc3 hc4]; done) | (rw [setR, if_neg hc1, ← hi0_0, setL_3 (by omega) hc3]; done)
      refine tr_pre (E' := [(4, none, .ref 0 []), (5, none, vint .i64 (((setR s p).2.1 : Nat) : Int)), (6, none, vbool ((setR s p).2.2))]) (H' := [.box (.p ((eA eB 1 37) ((setR s p).1)))]) (fun A_ W_ hS => sl_proj (ts := [4, 5, 6]) (by kernel_rfl) hS) ?_
      exact tr_return' (vc := []) (ds := [.p ((eA eB 1 37) ((setR s p).1)), vint .i64 (((setR s p).2.1 : Nat) : Int), vbool ((setR s p).2.2)]) (by kernel_rfl) trivial (by kernel_rfl) (fun _ _ h => h)
  · skip
    refine tr_skip ?_
    refine tr_then ?_
    refine tr_seq ?_
    refine tr_r (vc := [(IntKind.wrap .i64 (((p : Nat) : Int) + 1)) = (((p + 1) : Nat) : Int)]) (E' := [(0, none, vstr s), (4, none, .ref 0 []), (7, none, .ref 1 []), (9, none, vint .i64 (((p + 1) : Nat) : Int))]) (H' := [.box (.p ((eA eB 1 37) (fun _ => false))), .box (.p ((eA eB 1 37) (fun _ => false)))]) [(1, vint .i64 (((p + 1) : Nat) : Int))] [] [0, 4, 7, 9] (by kernel_rfl) ?_ ?_
    · refine al ?_ (trivial)
      · exact wr64 (by omega) (by omega) (by omega)
    refine tr_then ?_
    refine tr_seq ?_
    refine tr_r (vc := []) (E' := [(0, none, vstr s), (1, none, vint .i64 (((p + 1) : Nat) : Int)), (4, none, .ref 0 []), (7, none, .ref 1 []), (9, none, vint .i64 (((p + 1) : Nat) : Int))]) (H' := [.box (.p ((eA eB 1 37) (fun _ => false))), .box (.p ((eA eB 1 37) (fun _ => false)))]) [] [] [0, 1, 4, 7, 9] (by kernel_rfl) ?_ ?_
    · exact trivial
    refine tr_then ?_
    refine tr_seq ?_
    refine tr_block ?_
    refine tr_loop (α := Nat × Nat × (Nat → Bool)) (fun z : Nat × Nat × (Nat → Bool) => (fun (n : Nat) (p1 : Nat) (o : Nat → Bool) => [(0, none, vstr s), (1, none, vint .i64 ((p1 : Nat) : Int)), (4, none, .ref 0 []), (7, none, .ref 1 []), (9, none, vint .i64 (((p + 1) : Nat) : Int))]) z.1 z.2.1 z.2.2) (fun z : Nat × Nat × (Nat → Bool) => (fun (n : Nat) (p1 : Nat) (o : Nat → Bool) => [.box (.p ((eA eB 1 37) (fun _ => false))), .box (.p ((eA eB 1 37) o))]) z.1 z.2.1 z.2.2) (fun z : Nat × Nat × (Nat → Bool) => (fun (n : Nat) (p1 : Nat) (o : Nat → Bool) => (setL n s (p + 1) p1 o = setL (s.length + 1) s (p + 1) (p + 1) noSet) ∧ (s.length < n + p1) ∧ (p1 ≤ s.length)) z.1 z.2.1 z.2.2) (fun z : Nat × Nat × (Nat → Bool) => (fun (n : Nat) (p1 : Nat) (o : Nat → Bool) => s.length - p1) z.1 z.2.1 z.2.2) ((s.length + 1), (p + 1), (fun _ => false)) ?_ ?_ ?_
    · show (setL (s.length + 1) s (p + 1) (p + 1) (fun _ => false) = setL (s.length + 1) s (p + 1) (p + 1) noSet) ∧ (s.length < (s.length + 1) + (p + 1)) ∧ ((p + 1) ≤ s.length)
      refine ⟨?_, ?_, ?_⟩
      · rfl
      · first | omega | (intro hg; simp at hg; omega) | (simp; done) | (simp_all; done) | (simp_all; omega) | grind
      · first | omega | (intro hg; simp at hg; omega) | (simp; done) | (simp_all; done) | (simp_all; omega) | grind
    · intro A_ W_ hS
      exact sl_weak (vc := []) [0, 1] [0, 1, 4, 7, 9] (by kernel_rfl) trivial hS
    · intro z hz
      obtain ⟨n, p1, o⟩ := z
      have hz : (setL n s (p + 1) p1 o = setL (s.length + 1) s (p + 1) (p + 1) noSet) ∧ (s.length < n + p1) ∧ (p1 ≤ s.length) := hz
      obtain ⟨hi0_0, hi0_1, hi0_2⟩ := hz
      have hml : p1 < s.length → (memF s (p + 1) p1).2.2 = true → p1 < (memF s (p + 1) p1).2.1 ∧ (memF s (p + 1) p1).2.1 ≤ s.length := fun h h1 => memR_le (s := s) (p := p1) h h1
      have hmf : (memF s (p + 1) p1) = memR s p1 (((p1 : Nat) : Int) == ((p + 1 : Nat) : Int)) := rfl
      refine tr_seq ?_
      refine tr_seq ?_
      refine tr_r (vc := [(decide (((p1 : Nat) : Int) < ((s.length : Nat) : Int))) = true → (decide (((p1 : Nat) : Int) < ((s.length : Nat) : Int))) = true, (decide (((p1 : Nat) : Int) < ((s.length : Nat) : Int))) = true → (decide (((p1 : Nat) : Int) < ((s.length : Nat) : Int))) = true, (decide (((p1 : Nat) : Int) < ((s.length : Nat) : Int))) = true → ((0 : Int) ≤ ((p1 : Nat) : Int)), (decide (((p1 : Nat) : Int) < ((s.length : Nat) : Int))) = true → (((p1 : Nat) : Int) < (s.length : Int)), (decide (((p1 : Nat) : Int) < ((s.length : Nat) : Int))) = true → (decide (((p1 : Nat) : Int) < ((s.length : Nat) : Int))) = true, (decide (((p1 : Nat) : Int) < ((s.length : Nat) : Int))) = true → (decide (((p1 : Nat) : Int) < ((s.length : Nat) : Int))) = true]) (E' := [(0, none, vstr s), (1, none, vint .i64 ((p1 : Nat) : Int)), (4, none, .ref 0 []), (7, none, .ref 1 []), (9, none, vint .i64 (((p + 1) : Nat) : Int)), (43, none, vbool ((decide (((p1 : Nat) : Int) < ((s.length : Nat) : Int))) && (((s.getD p1 0).toNat : Int) != 93)))]) (H' := [.box (.p ((eA eB 1 37) (fun _ => false))), .box (.p ((eA eB 1 37) o))]) [] [] [0, 1, 4, 7, 9, 43] (by kernel_rfl) ?_ ?_
      · refine al ?_ (al ?_ (al ?_ (al ?_ (al ?_ (al ?_ (trivial))))))
        · exact id
        · exact id
        · first | omega | (intro hg; simp at hg; omega) | (simp; done) | (simp_all; done) | (simp_all; omega) | grind
        · first | omega | (intro hg; simp at hg; omega) | (simp; done) | (simp_all; done) | (simp_all; omega) | grind
        · exact id
        · exact id
      refine tr_then ?_
      refine tr_condP ((decide (((p1 : Nat) : Int) < ((s.length : Nat) : Int))) && (((s.getD p1 0).toNat : Int) != 93)) ((((p1 : Nat) : Int) < ((s.length : Nat) : Int)) ∧ (((s.getD p1 0).toNat : Int) ≠ 93)) (by simp) (by kernel_rfl) (fun hc3 => ?_) (fun hc3 => ?_)
      · skip
        refine tr_skip ?_
        refine tr_then ?_
        refine tr_block ?_
        refine tr_seq ?_
        refine tr_r (vc := [Pure Try.prog 54 [.s s, .v (.int .i64 ((p1 : Nat) : Int)), .v (.bool (((p1 : Nat) : Int) == (((p + 1) : Nat) : Int)))] (.tup [.p ((eA eB 1 37) ((memR s p1 (((p1 : Nat) : Int) == (((p + 1) : Nat) : Int))).1)), vint .i64 (((memR s p1 (((p1 : Nat) : Int) == (((p + 1) : Nat) : Int))).2.1 : Nat) : Int), vbool ((memR s p1 (((p1 : Nat) : Int) == (((p + 1) : Nat) : Int))).2.2)]), (.p ((eA eB 1 37) ((memR s p1 (((p1 : Nat) : Int) == (((p + 1) : Nat) : Int))).1)) : D) = .p ((eA eB 1 37) ((memF s (p + 1) p1).1)), (((memR s p1 (((p1 : Nat) : Int) == (((p + 1) : Nat) : Int))).2.1 : Nat) : Int) = (((memF s (p + 1) p1).2.1 : Nat) : Int), ((memR s p1 (((p1 : Nat) : Int) == (((p + 1) : Nat) : Int))).2.2) = ((memF s (p + 1) p1).2.2)]) (E' := [(0, none, vstr s), (1, none, vint .i64 ((p1 : Nat) : Int)), (4, none, .ref 0 []), (7, none, .ref 1 []), (9, none, vint .i64 (((p + 1) : Nat) : Int)), (10, none, .ref 2 []), (11, none, vint .i64 (((memF s (p + 1) p1).2.1 : Nat) : Int)), (12, none, vbool ((memF s (p + 1) p1).2.2))]) (H' := [.box (.p ((eA eB 1 37) (fun _ => false))), .box (.p ((eA eB 1 37) o)), .box (.p ((eA eB 1 37) ((memF s (p + 1) p1).1)))]) [(7, .p ((eA eB 1 37) ((memF s (p + 1) p1).1))), (8, vint .i64 (((memF s (p + 1) p1).2.1 : Nat) : Int)), (9, vbool ((memF s (p + 1) p1).2.2))] [(5, .tup [.p ((eA eB 1 37) ((memR s p1 (((p1 : Nat) : Int) == (((p + 1) : Nat) : Int))).1)), vint .i64 (((memR s p1 (((p1 : Nat) : Int) == (((p + 1) : Nat) : Int))).2.1 : Nat) : Int), vbool ((memR s p1 (((p1 : Nat) : Int) == (((p + 1) : Nat) : Int))).2.2)])] [0, 1, 4, 7, 9, 10, 11, 12] (by kernel_rfl) ?_ ?_
        · refine al ?_ (al ?_ (al ?_ (al ?_ (trivial))))
          · exact member_ok _ _ _ (by omega) (by omega)
          · first | omega | (intro hg; simp at hg; omega) | (simp; done) | (simp_all; done) | (simp_all; omega) | grind
          · first | omega | (intro hg; simp at hg; omega) | (simp; done) | (simp_all; done) | (simp_all; omega) | grind
          · first | omega | (intro hg; simp at hg; omega) | (simp; done) | (simp_all; done) | (simp_all; omega) | grind
        refine tr_then ?_
        refine tr_seq ?_
        refine tr_seq ?_
        refine tr_r (vc := []) (E' := [(0, none, vstr s), (1, none, vint .i64 ((p1 : Nat) : Int)), (4, none, .ref 0 []), (7, none, .ref 1 []), (9, none, vint .i64 (((p + 1) : Nat) : Int)), (10, none, .ref 2 []), (11, none, vint .i64 (((memF s (p + 1) p1).2.1 : Nat) : Int)), (55, none, vbool (!((memF s (p + 1) p1).2.2)))]) (H' := [.box (.p ((eA eB 1 37) (fun _ => false))), .box (.p ((eA eB 1 37) o)), .box (.p ((eA eB 1 37) ((memF s (p + 1) p1).1)))]) [] [] [0, 1, 4, 7, 9, 10, 11, 55] (by kernel_rfl) ?_ ?_
        · exact trivial
        refine tr_then ?_
        refine tr_condP (!((memF s (p + 1) p1).2.2)) (((memF s (p + 1) p1).2.2) = false) (by simp) (by kernel_rfl) (fun hc4 => ?_) (fun hc4 => ?_)
        · skip
          refine tr_seq ?_
          refine tr_r (vc := []) (E' := [(4, none, .ref 0 []), (5, none, vint .i64 ((p1 : Nat) : Int)), (6, none, vbool false)]) (H' := [.box (.p ((eA eB 1 37) o)), .box (.p ((eA eB 1 37) o)), .box (.p ((eA eB 1 37) ((memF s (p + 1) p1).1)))]) [] [] [4, 5, 6] (by kernel_rfl) ?_ ?_
          · exact trivial
          refine tr_then ?_
          refine tr_pre (E' := [(4, none, .ref 0 []), (5, none, vint .i64 ((p1 : Nat) : Int)), (6, none, vbool false)]) (H' := [.box (.p ((eA eB 1 37) o))]) (fun A_ W_ hS => sl_weak (vc := []) [0] [4, 5, 6] (by kernel_rfl) trivial hS) ?_
          refine tr_pre (E' := [(4, none, .ref 0 []), (5, none, vint .i64 ((p1 : Nat) : Int)), (6, none, vbool false)]) (H' := [.box (.p ((eA eB 1 37) ((setR s p).1)))]) (fun A_ W_ hS => sl_obj_imp (d := .p ((eA eB 1 37) o)) 0 (.p ((eA eB 1 37) ((setR s p).1))) (by kernel_rfl) ?_ hS) ?_
          · refine impC_eq (congrArg (fun x => D.p ((eA eB 1 37) x)) (a₁ := o) (a₂ := ((setR s p).1)) ?_)
            first | (rw [setR, if_pos hc1, if_pos hc2]; done) | (rw [setR, if_pos hc1, if_pos hc2]; rfl) | (rw [setR, if_pos hc1, if_neg hc2]; done) | (rw [setR, if_pos hc1, if_neg hc2]; rfl) | (rw [setR, if_neg hc1, ← hi0_0, setL_1 (by omega) hc3 hc4]; done) | (rw [setR, if_neg hc1, ← hi0_0, setL_3 (by omega) hc3]; done)
          refine tr_pre (E' := (5, none, vint .i64 (((setR s p).2.1 : Nat) : Int)) :: [(4, none, .ref 0 []), (5, none, vint .i64 ((p1 : Nat) : Int)), (6, none, vbool false)]) (H' := [.box (.p ((eA eB 1 37) ((setR s p).1)))]) (fun A_ W_ hS => sl_set_imp (d := vint .i64 ((p1 : Nat) : Int)) 5 (vint .i64 (((setR s p).2.1 : Nat) : Int)) (by kernel_rfl) ?_ hS) ?_
          · refine imp_eq (congrArg (fun x => D.p (eI x)) (a₁ := ((p1 : Nat) : Int)) (a₂ := (((setR s p).2.1 : Nat) : Int)) ?_)
            first | (rw [setR, if_pos hc1, if_pos hc2]; done) | (rw [setR, if_pos hc1, if_pos hc2]; rfl) | (rw [setR, if_pos hc1, if_neg hc2]; done) | (rw [setR, if_pos hc1, if_neg hc2]; rfl) | (rw [setR, if_neg hc1, ← hi0_0, setL_1 (by omega) hc3 hc4]; done) | (rw [setR, if_neg hc1, ← hi0_0, setL_3 (by omega) hc3]; done)
          refine tr_pre (E' := [(4, none, .ref 0 []), (5, none, vint .i64 (((setR s p).2.1 : Nat) : Int)), (6, none, vbool false)]) (H' := [.box (.p ((eA eB 1 37) ((setR s p).1)))]) (fun A_ W_ hS => sl_proj (ts := [4, 5, 6]) (by kernel_rfl) hS) ?_
          refine tr_pre (E' := (6, none, vbool ((setR s p).2.2)) :: [(4, none, .ref 0 []), (5, none, vint .i64 (((setR s p).2.1 : Nat) : Int)), (6, none, vbool false)]) (H' := [.box (.p ((eA eB 1 37) ((setR s p).1)))]) (fun A_ W_ hS => sl_set_imp (d := vbool false) 6 (vbool ((setR s p).2.2)) (by kernel_rfl) ?_ hS) ?_
          · refine imp_eq (congrArg (fun x => D.p (eB x)) (a₁ := false) (a₂ := ((setR s p).2.2)) ?_)
            first | (rw [setR, if_pos hc1, if_pos hc2]; done) | (rw [setR, if_pos hc1, if_pos hc2]; rfl) | (rw [setR, if_pos hc1, if_neg hc2]; done) | (rw [setR, if_pos hc1, if_neg hc2]; rfl) | (rw [setR, if_neg hc1, ← hi0_0, setL_1 (by omega) hc3 hc4]; done) | (rw [setR, if_neg hc1, ← hi0_0, setL_3 (by omega) hc3]; done)
          refine tr_pre (E' := [(4, none, .ref 0 []), (5, none, vint .i64 (((setR s p).2.1 : Nat) : Int)), (6, none, vbool ((setR s p).2.2))]) (H' := [.box (.p ((eA eB 1 37) ((setR s p).1)))]) (fun A_ W_ hS => sl_proj (ts := [4, 5, 6]) (by kernel_rfl) hS) ?_
          exact tr_return' (vc := []) (ds := [.p ((eA eB 1 37) ((setR s p).1)), vint .i64 (((setR s p).2.1 : Nat) : Int), vbool ((setR s p).2.2)]) (by kernel_rfl) trivial (by kernel_rfl) (fun _ _ h => h)
        · skip
          refine tr_skip ?_
          refine tr_then ?_
          refine tr_seq ?_
          refine tr_seq ?_
          refine tr_r (vc := []) (E' := [(0, none, vstr s), (4, none, .ref 0 []), (7, none, .ref 1 []), (9, none, vint .i64 (((p + 1) : Nat) : Int)), (10, none, .ref 2 []), (11, none, vint .i64 (((memF s (p + 1) p1).2.1 : Nat) : Int)), (13, none, vint .i64 0)]) (H' := [.box (.p ((eA eB 1 37) (fun _ => false))), .box (.p ((eA eB 1 37) o)), .box (.p ((eA eB 1 37) ((memF s (p + 1) p1).1)))]) [] [] [0, 4, 7, 9, 10, 11, 13] (by kernel_rfl) ?_ ?_
          · exact trivial
          refine tr_then ?_
          refine tr_block ?_
          refine tr_loop (α := Nat) (fun z : Nat => (fun (k : Nat) => [(0, none, vstr s), (4, none, .ref 0 []), (7, none, .ref 1 []), (9, none, vint .i64 (((p + 1) : Nat) : Int)), (10, none, .ref 2 []), (11, none, vint .i64 (((memF s (p + 1) p1).2.1 : Nat) : Int)), (13, none, vint .i64 ((k : Nat) : Int))]) z) (fun z : Nat => (fun (k : Nat) => [.box (.p ((eA eB 1 37) (fun _ => false))), .box (.p ((eA eB 1 37) (orN o (memF s (p + 1) p1).1 k))), .box (.p ((eA eB 1 37) ((memF s (p + 1) p1).1)))]) z) (fun z : Nat => (fun (k : Nat) => (k ≤ 37)) z) (fun z : Nat => (fun (k : Nat) => 37 - k) z) 0 ?_ ?_ ?_
          · show (0 ≤ 37)
            · first | omega | (intro hg; simp at hg; omega) | (simp; done) | (simp_all; done) | (simp_all; omega) | grind
          · intro A_ W_ hS
            replace hS := sl_set (d := vint .i64 0) 13 (vint .i64 ((0 : Nat) : Int)) (by kernel_rfl) (eqD_int (by first | omega | (intro hg; simp at hg; omega) | (simp; done) | (simp_all; done) | (simp_all; omega) | grind)) hS
            replace hS := sl_obj_imp (d := .p ((eA eB 1 37) o)) 1 (.p ((eA eB 1 37) (orN o (memF s (p + 1) p1).1 0))) (by kernel_rfl) (impC_eq (congrArg (fun x => D.p ((eA eB 1 37) x)) (a₁ := o) (a₂ := (orN o (memF s (p + 1) p1).1 0)) (by exact (orN_0 _ _).symm))) hS
            exact sl_weak (vc := []) [0, 1, 2] [0, 4, 7, 9, 10, 11, 13] (by kernel_rfl) trivial hS
          · intro z hz
            revert z; intro k hz
            have hz : (k ≤ 37) := hz
            have hi1_0 := hz
            refine tr_seq ?_
            refine tr_seq ?_
            refine tr_r (vc := []) (E' := [(0, none, vstr s), (4, none, .ref 0 []), (7, none, .ref 1 []), (9, none, vint .i64 (((p + 1) : Nat) : Int)), (10, none, .ref 2 []), (11, none, vint .i64 (((memF s (p + 1) p1).2.1 : Nat) : Int)), (13, none, vint .i64 ((k : Nat) : Int)), (59, none, vbool (decide (((k : Nat) : Int) < 37)))]) (H' := [.box (.p ((eA eB 1 37) (fun _ => false))), .box (.p ((eA eB 1 37) (orN o (memF s (p + 1) p1).1 k))), .box (.p ((eA eB 1 37) ((memF s (p + 1) p1).1)))]) [] [] [0, 4, 7, 9, 10, 11, 13, 59] (by kernel_rfl) ?_ ?_
            · exact trivial
            refine tr_then ?_
            refine tr_condP (decide (((k : Nat) : Int) < 37)) (((k : Nat) : Int) < 37) (by simp) (by kernel_rfl) (fun hc5 => ?_) (fun hc5 => ?_)
            · skip
              refine tr_skip ?_
              refine tr_then ?_
              refine tr_seq ?_
              refine tr_block ?_
              refine tr_r (vc := [(0 : Int) ≤ ((k : Nat) : Int), ((k : Nat) : Int) < (37 : Int), k < 37, (!((orN o (memF s (p + 1) p1).1 k) k)) = true → (!((orN o (memF s (p + 1) p1).1 k) k)) = true, (!((orN o (memF s (p + 1) p1).1 k) k)) = true → ((0 : Int) ≤ ((k : Nat) : Int)), (!((orN o (memF s (p + 1) p1).1 k) k)) = true → (((k : Nat) : Int) < (37 : Int)), (!((orN o (memF s (p + 1) p1).1 k) k)) = true → (!((orN o (memF s (p + 1) p1).1 k) k)) = true, (!((orN o (memF s (p + 1) p1).1 k) k)) = true → (k < 37), (!((orN o (memF s (p + 1) p1).1 k) k)) = true → (!((orN o (memF s (p + 1) p1).1 k) k)) = true, (0 : Int) ≤ ((k : Nat) : Int), ((k : Nat) : Int) < (37 : Int), k < 37]) (E' := [(0, none, vstr s), (4, none, .ref 0 []), (7, none, .ref 1 []), (9, none, vint .i64 (((p + 1) : Nat) : Int)), (10, none, .ref 2 []), (11, none, vint .i64 (((memF s (p + 1) p1).2.1 : Nat) : Int)), (13, none, vint .i64 ((k : Nat) : Int))]) (H' := [.box (.p ((eA eB 1 37) (fun _ => false))), .box (.p (.vec 1 37 (upd (fun i => eB ((orN o (memF s (p + 1) p1).1 k) i)) k (.v (.bool (((orN o (memF s (p + 1) p1).1 k) k) || (((memF s (p + 1) p1).1) k))))))), .box (.p ((eA eB 1 37) ((memF s (p + 1) p1).1)))]) [] [] [0, 4, 7, 9, 10, 11, 13] (by kernel_rfl) ?_ ?_
              · refine al ?_ (al ?_ (al ?_ (al ?_ (al ?_ (al ?_ (al ?_ (al ?_ (al ?_ (al ?_ (al ?_ (al ?_ (trivial))))))))))))
                · first | omega | (intro hg; simp at hg; omega) | (simp; done) | (simp_all; done) | (simp_all; omega) | grind
                · first | omega | (intro hg; simp at hg; omega) | (simp; done) | (simp_all; done) | (simp_all; omega) | grind
                · first | omega | (intro hg; simp at hg; omega) | (simp; done) | (simp_all; done) | (simp_all; omega) | grind
                · exact id
                · first | omega | (intro hg; simp at hg; omega) | (simp; done) | (simp_all; done) | (simp_all; omega) | grind
                · first | omega | (intro hg; simp at hg; omega) | (simp; done) | (simp_all; done) | (simp_all; omega) | grind
                · exact id
                · first | omega | (intro hg; simp at hg; omega) | (simp; done) | (simp_all; done) | (simp_all; omega) | grind
                · exact id
                · first | omega | (intro hg; simp at hg; omega) | (simp; done) | (simp_all; done) | (simp_all; omega) | grind
                · first | omega | (intro hg; simp at hg; omega) | (simp; done) | (simp_all; done) | (simp_all; omega) | grind
                · first | omega | (intro hg; simp at hg; omega) | (simp; done) | (simp_all; done) | (simp_all; omega) | grind
              refine nm_pre (E' := [(0, none, vstr s), (4, none, .ref 0 []), (7, none, .ref 1 []), (9, none, vint .i64 (((p + 1) : Nat) : Int)), (10, none, .ref 2 []), (11, none, vint .i64 (((memF s (p + 1) p1).2.1 : Nat) : Int)), (13, none, vint .i64 ((k : Nat) : Int))]) (H' := [.box (.p ((eA eB 1 37) (fun _ => false))), .box (.p ((eA eB 1 37) (upd (orN o (memF s (p + 1) p1).1 k) k (((orN o (memF s (p + 1) p1).1 k) k) || (((memF s (p + 1) p1).1) k))))), .box (.p ((eA eB 1 37) ((memF s (p + 1) p1).1)))]) (fun A_ W_ hS => sl_obj (o := .box (.p (.vec 1 37 (upd (fun i => eB ((orN o (memF s (p + 1) p1).1 k) i)) k (.v (.bool (((orN o (memF s (p + 1) p1).1 k) k) || (((memF s (p + 1) p1).1) k)))))))) 1 (.box (.p ((eA eB 1 37) (upd (orN o (memF s (p + 1) p1).1 k) k (((orN o (memF s (p + 1) p1).1 k) k) || (((memF s (p + 1) p1).1) k)))))) (by kernel_rfl) (by exact congrArg (fun y => O.box (D.p y)) (vec_upd (e := eB) (f := (orN o (memF s (p + 1) p1).1 k)) (k := k) (x := (((orN o (memF s (p + 1) p1).1 k) k) || (((memF s (p + 1) p1).1) k))))) hS) ?_
              refine in_n ?_
              refine tr_then ?_
              refine tr_r (vc := [(IntKind.wrap .i64 (((k : Nat) : Int) + 1)) = (((k + 1) : Nat) : Int)]) (E' := [(0, none, vstr s), (4, none, .ref 0 []), (7, none, .ref 1 []), (9, none, vint .i64 (((p + 1) : Nat) : Int)), (10, none, .ref 2 []), (11, none, vint .i64 (((memF s (p + 1) p1).2.1 : Nat) : Int)), (13, none, vint .i64 (((k + 1) : Nat) : Int))]) (H' := [.box (.p ((eA eB 1 37) (fun _ => false))), .box (.p ((eA eB 1 37) (upd (orN o (memF s (p + 1) p1).1 k) k (((orN o (memF s (p + 1) p1).1 k) k) || (((memF s (p + 1) p1).1) k))))), .box (.p ((eA eB 1 37) ((memF s (p + 1) p1).1)))]) [(1, vint .i64 (((k + 1) : Nat) : Int))] [] [0, 4, 7, 9, 10, 11, 13] (by kernel_rfl) ?_ ?_
              · refine al ?_ (trivial)
                · exact wr64 (by omega) (by omega) (by omega)
              refine lp_end (k + 1) ?_ ?_ ?_
              · show ((k + 1) ≤ 37)
                · first | omega | (intro hg; simp at hg; omega) | (simp; done) | (simp_all; done) | (simp_all; omega) | grind
              · show 37 - (k + 1) < 37 - k
                omega
              · intro A_ W_ hS
                replace hS := sl_obj_imp (d := .p ((eA eB 1 37) (upd (orN o (memF s (p + 1) p1).1 k) k (((orN o (memF s (p + 1) p1).1 k) k) || (((memF s (p + 1) p1).1) k))))) 1 (.p ((eA eB 1 37) (orN o (memF s (p + 1) p1).1 (k + 1)))) (by kernel_rfl) (impC_eq (congrArg (fun x => D.p ((eA eB 1 37) x)) (a₁ := (upd (orN o (memF s (p + 1) p1).1 k) k (((orN o (memF s (p + 1) p1).1 k) k) || (((memF s (p + 1) p1).1) k)))) (a₂ := (orN o (memF s (p + 1) p1).1 (k + 1))) (by exact orN_s _ _ _))) hS
                exact sl_weak (vc := []) [0, 1, 2] [0, 4, 7, 9, 10, 11, 13] (by kernel_rfl) trivial hS
            · skip
              refine tr_exit ?_
              refine th_e ?_
              refine th_e ?_
              refine in_hit ?_
              refine tr_then ?_
              refine tr_r (vc := []) (E' := [(0, none, vstr s), (1, none, vint .i64 (((memF s (p + 1) p1).2.1 : Nat) : Int)), (4, none, .ref 0 []), (7, none, .ref 1 []), (9, none, vint .i64 (((p + 1) : Nat) : Int))]) (H' := [.box (.p ((eA eB 1 37) (fun _ => false))), .box (.p ((eA eB 1 37) (orN o (memF s (p + 1) p1).1 k))), .box (.p ((eA eB 1 37) ((memF s (p + 1) p1).1)))]) [] [] [0, 1, 4, 7, 9] (by kernel_rfl) ?_ ?_
              · exact trivial
              refine in_n ?_
              refine lp_end ((n - 1), (memF s (p + 1) p1).2.1, (orN o (memF s (p + 1) p1).1 k)) ?_ ?_ ?_
              · show (setL (n - 1) s (p + 1) ((memF s (p + 1) p1).2.1) (orN o (memF s (p + 1) p1).1 k) = setL (s.length + 1) s (p + 1) (p + 1) noSet) ∧ (s.length < (n - 1) + ((memF s (p + 1) p1).2.1)) ∧ (((memF s (p + 1) p1).2.1) ≤ s.length)
                refine ⟨?_, ?_, ?_⟩
                · obtain rfl : k = 37 := (by omega); rw [← hi0_0, setL_2 (n := n) (by omega) hc3 hc4]
                · first | omega | (intro hg; simp at hg; omega) | (simp; done) | (simp_all; done) | (simp_all; omega) | grind
                · first | omega | (intro hg; simp at hg; omega) | (simp; done) | (simp_all; done) | (simp_all; omega) | grind
              · show s.length - ((memF s (p + 1) p1).2.1) < s.length - p1
                have := hml (by omega) (eq_true_of_ne_false hc4); omega
              · intro A_ W_ hS
                replace hS := sl_set (d := vint .i64 (((memF s (p + 1) p1).2.1 : Nat) : Int)) 1 (vint .i64 ((((memF s (p + 1) p1).2.1) : Nat) : Int)) (by kernel_rfl) (eqD_int (by first | omega | (intro hg; simp at hg; omega) | (simp; done) | (simp_all; done) | (simp_all; omega) | grind)) hS
                exact sl_weak (vc := []) [0, 1] [0, 1, 4, 7, 9] (by kernel_rfl) trivial hS
      · skip
        refine tr_exit ?_
        refine th_e ?_
        refine th_e ?_
        refine in_hit ?_
        refine tr_then ?_
        refine tr_seq ?_
        refine tr_r (vc := [(IntKind.wrap .i64 (((p1 : Nat) : Int) + 1)) = (((p1 + 1) : Nat) : Int), (decide (((p1 : Nat) : Int) < ((s.length : Nat) : Int))) = true → (decide (((p1 : Nat) : Int) < ((s.length : Nat) : Int))) = true, (decide (((p1 : Nat) : Int) < ((s.length : Nat) : Int))) = true → (decide (((p1 : Nat) : Int) < ((s.length : Nat) : Int))) = true, (decide (((p1 : Nat) : Int) < ((s.length : Nat) : Int))) = true → (decide (((p1 : Nat) : Int) < ((s.length : Nat) : Int))) = true]) (E' := [(4, none, .ref 0 []), (5, none, vint .i64 (((p1 + 1) : Nat) : Int)), (6, none, vbool ((decide (((p1 : Nat) : Int) < ((s.length : Nat) : Int))) && (decide ((((p + 1) : Nat) : Int) < ((p1 : Nat) : Int)))))]) (H' := [.box (.p ((eA eB 1 37) o)), .box (.p ((eA eB 1 37) o))]) [(2, vint .i64 (((p1 + 1) : Nat) : Int))] [] [4, 5, 6] (by kernel_rfl) ?_ ?_
        · refine al ?_ (al ?_ (al ?_ (al ?_ (trivial))))
          · exact wr64 (by omega) (by omega) (by omega)
          · exact id
          · exact id
          · exact id
        refine tr_then ?_
        refine tr_pre (E' := [(4, none, .ref 0 []), (5, none, vint .i64 (((p1 + 1) : Nat) : Int)), (6, none, vbool ((decide (((p1 : Nat) : Int) < ((s.length : Nat) : Int))) && (decide ((((p + 1) : Nat) : Int) < ((p1 : Nat) : Int)))))]) (H' := [.box (.p ((eA eB 1 37) o))]) (fun A_ W_ hS => sl_weak (vc := []) [0] [4, 5, 6] (by kernel_rfl) trivial hS) ?_
        refine tr_pre (E' := [(4, none, .ref 0 []), (5, none, vint .i64 (((p1 + 1) : Nat) : Int)), (6, none, vbool ((decide (((p1 : Nat) : Int) < ((s.length : Nat) : Int))) && (decide ((((p + 1) : Nat) : Int) < ((p1 : Nat) : Int)))))]) (H' := [.box (.p ((eA eB 1 37) ((setR s p).1)))]) (fun A_ W_ hS => sl_obj_imp (d := .p ((eA eB 1 37) o)) 0 (.p ((eA eB 1 37) ((setR s p).1))) (by kernel_rfl) ?_ hS) ?_
        · refine impC_eq (congrArg (fun x => D.p ((eA eB 1 37) x)) (a₁ := o) (a₂ := ((setR s p).1)) ?_)
          first | (rw [setR, if_pos hc1, if_pos hc2]; done) | (rw [setR, if_pos hc1, if_pos hc2]; rfl) | (rw [setR, if_pos hc1, if_neg hc2]; done) | (rw [setR, if_pos hc1, if_neg hc2]; rfl) | (rw [setR, if_neg hc1, ← hi0_0, setL_1 (by omega) hc3 hc4]; done) | (rw [setR, if_neg hc1, ← hi0_0, setL_3 (by omega) hc3]; done)
        refine tr_pre (E' := (5, none, vint .i64 (((setR s p).2.1 : Nat) : Int)) :: [(4, none, .ref 0 []), (5, none, vint .i64 (((p1 + 1) : Nat) : Int)), (6, none, vbool ((decide (((p1 : Nat) : Int) < ((s.length : Nat) : Int))) && (decide ((((p + 1) : Nat) : Int) < ((p1 : Nat) : Int)))))]) (H' := [.box (.p ((eA eB 1 37) ((setR s p).1)))]) (fun A_ W_ hS => sl_set_imp (d := vint .i64 (((p1 + 1) : Nat) : Int)) 5 (vint .i64 (((setR s p).2.1 : Nat) : Int)) (by kernel_rfl) ?_ hS) ?_
        · refine imp_eq (congrArg (fun x => D.p (eI x)) (a₁ := (((p1 + 1) : Nat) : Int)) (a₂ := (((setR s p).2.1 : Nat) : Int)) ?_)
          first | (rw [setR, if_pos hc1, if_pos hc2]; done) | (rw [setR, if_pos hc1, if_pos hc2]; rfl) | (rw [setR, if_pos hc1, if_neg hc2]; done) | (rw [setR, if_pos hc1, if_neg hc2]; rfl) | (rw [setR, if_neg hc1, ← hi0_0, setL_1 (by omega) hc3 hc4]; done) | (rw [setR, if_neg hc1, ← hi0_0, setL_3 (by omega) hc3]; done)
        refine tr_pre (E' := [(4, none, .ref 0 []), (5, none, vint .i64 (((setR s p).2.1 : Nat) : Int)), (6, none, vbool ((decide (((p1 : Nat) : Int) < ((s.length : Nat) : Int))) && (decide ((((p + 1) : Nat) : Int) < ((p1 : Nat) : Int)))))]) (H' := [.box (.p ((eA eB 1 37) ((setR s p).1)))]) (fun A_ W_ hS => sl_proj (ts := [4, 5, 6]) (by kernel_rfl) hS) ?_
        refine tr_pre (E' := (6, none, vbool ((setR s p).2.2)) :: [(4, none, .ref 0 []), (5, none, vint .i64 (((setR s p).2.1 : Nat) : Int)), (6, none, vbool ((decide (((p1 : Nat) : Int) < ((s.length : Nat) : Int))) && (decide ((((p + 1) : Nat) : Int) < ((p1 : Nat) : Int)))))]) (H' := [.box (.p ((eA eB 1 37) ((setR s p).1)))]) (fun A_ W_ hS => sl_set_imp (d := vbool ((decide (((p1 : Nat) : Int) < ((s.length : Nat) : Int))) && (decide ((((p + 1) : Nat) : Int) < ((p1 : Nat) : Int))))) 6 (vbool ((setR s p).2.2)) (by kernel_rfl) ?_ hS) ?_
        · refine imp_eq (congrArg (fun x => D.p (eB x)) (a₁ := ((decide (((p1 : Nat) : Int) < ((s.length : Nat) : Int))) && (decide ((((p + 1) : Nat) : Int) < ((p1 : Nat) : Int))))) (a₂ := ((setR s p).2.2)) ?_)
          first | (rw [setR, if_pos hc1, if_pos hc2]; done) | (rw [setR, if_pos hc1, if_pos hc2]; rfl) | (rw [setR, if_pos hc1, if_neg hc2]; done) | (rw [setR, if_pos hc1, if_neg hc2]; rfl) | (rw [setR, if_neg hc1, ← hi0_0, setL_1 (by omega) hc3 hc4]; done) | (rw [setR, if_neg hc1, ← hi0_0, setL_3 (by omega) hc3]; done)
        refine tr_pre (E' := [(4, none, .ref 0 []), (5, none, vint .i64 (((setR s p).2.1 : Nat) : Int)), (6, none, vbool ((setR s p).2.2))]) (H' := [.box (.p ((eA eB 1 37) ((setR s p).1)))]) (fun A_ W_ hS => sl_proj (ts := [4, 5, 6]) (by kernel_rfl) hS) ?_
        exact tr_return' (vc := []) (ds := [.p ((eA eB 1 37) ((setR s p).1)), vint .i64 (((setR s p).2.1 : Nat) : Int), vbool ((setR s p).2.2)]) (by kernel_rfl) trivial (by kernel_rfl) (fun _ _ h => h)
end Go.Proofs.Ytjnjmnfacaakfaa
namespace Go.Proofs.Ytjnjmnfacaakfaa
open Go.Eng
theorem memF_le {s : List UInt8} {f p : Nat} (h : p < s.length) (hr : (memF s f p).2.2 = true) : p < (memF s f p).2.1 ∧ (memF s f p).2.1 ≤ s.length := memR_le h hr
theorem setL_le {s : List UInt8} {f : Nat} : ∀ {n p : Nat} {o : Nat → Bool}, p ≤ s.length → (setL n s f p o).2.2 = true → p < (setL n s f p o).2.1 ∧ (setL n s f p o).2.1 ≤ s.length
  | 0, _, _, _, h => by cases h
  | n + 1, p, o, hp, h => by
    unfold setL at h ⊢
    by_cases h1 : ((p : Nat) : Int) < ((s.length : Nat) : Int) ∧ ((s.getD p 0).toNat : Int) ≠ 93
    · rw [if_pos h1] at h ⊢
      by_cases h2 : (memF s f p).2.2 = false
      · rw [if_pos h2] at h; cases h
      · rw [if_neg h2] at h ⊢
        have := memF_le (s := s) (f := f) (p := p) (by omega) (eq_true_of_ne_false h2)
        have ih := setL_le this.2 h
        exact ⟨by omega, ih.2⟩
    · rw [if_neg h1] at h ⊢
      simp only [Bool.and_eq_true, decide_eq_true_eq] at h
      exact ⟨by simp, by simp only; omega⟩
theorem setR_le {s : List UInt8} {p : Nat} (hp : p < s.length) (h : (setR s p).2.2 = true) : p < (setR s p).2.1 ∧ (setR s p).2.1 ≤ s.length := by
  unfold setR at h ⊢
  split
  · rename_i h1
    rw [if_pos h1] at h
    split
    · rename_i h2; rw [if_pos h2] at h; cases h
    · exact ⟨by simp, by simp only; omega⟩
  · rename_i h1
    rw [if_neg h1] at h
    have := setL_le (by omega) h
    exact ⟨by omega, this.2⟩
def HasM (s : List UInt8) (q : Nat) : Prop := ((q : Nat) : Int) < ((s.length : Nat) : Int) ∧ ((((s.getD q 0).toNat : Int) = 63 ∨ ((s.getD q 0).toNat : Int) = 43) ∨ ((s.getD q 0).toNat : Int) = 42)
instance (s : List UInt8) (q : Nat) : Decidable (HasM s q) := inferInstanceAs (Decidable (_ ∧ _))
def moR (s : List UInt8) (q : Nat) : Int := if HasM s q then ((s.getD q 0).toNat : Int) else 0
def nxR (s : List UInt8) (q : Nat) : Nat := if HasM s q then q + 1 else q
def moT (m : Int) : Int := if m = 43 then 42 else m
def addR (cur : List Piece) (x : Nat → Bool) (m : Int) : List Piece := if m = 43 then cur ++ [({ Set := x } : Piece)] else cur
def brR : Nat → List UInt8 → Nat → List Piece → List (List Piece) → Option (List (List Piece))
  | 0, _, _, _, _ => none
  | n + 1, s, p, cur, out => if ((p : Nat) : Int) < ((s.length : Nat) : Int) then
      (if ((s.getD p 0).toNat : Int) = 124 then (if ((cur.length : Nat) : Int) = 0 then none else brR n s (p + 1) [] (out ++ [cur]))
        else if (setR s p).2.2 = false then none
        else brR n s (nxR s (setR s p).2.1) (addR cur (setR s p).1 (moR s (setR s p).2.1) ++ [({ Set := (setR s p).1, More := moT (moR s (setR s p).2.1) } : Piece)]) out)
    else if ((cur.length : Nat) : Int) = 0 then none else some (out ++ [cur])
def branchesR (s : List UInt8) : Option (List (List Piece)) := brR (s.length + 1) s 0 [] []
def brOf (x : Option (List (List Piece))) : List (List Piece) := match x with
  | some y => y
  | none => []
theorem nxR_le {s : List UInt8} {q : Nat} (h : q ≤ s.length) : q ≤ nxR s q ∧ nxR s q ≤ s.length := by
  unfold nxR
  split
  · rename_i h1; have := h1.1; omega
  · omega
theorem addR_len {cur : List Piece} {x : Nat → Bool} {m : Int} : (addR cur x m).length ≤ cur.length + 1 := by
  unfold addR
  split <;> simp
section
variable {n p : Nat} {s : List UInt8} {cur : List Piece} {out : List (List Piece)}
theorem brR_1 (hn : 0 < n) (h : ((p : Nat) : Int) < ((s.length : Nat) : Int)) (h1 : ((s.getD p 0).toNat : Int) = 124) (h2 : ((cur.length : Nat) : Int) = 0) : brR n s p cur out = none := by
  obtain ⟨n, rfl⟩ : ∃ j, n = j + 1 := ⟨n - 1, by omega⟩
  rw [brR, if_pos h, if_pos h1, if_pos h2]
theorem brR_2 (hn : 0 < n) (h : ((p : Nat) : Int) < ((s.length : Nat) : Int)) (h1 : ((s.getD p 0).toNat : Int) = 124) (h2 : ¬ ((cur.length : Nat) : Int) = 0) : brR n s p cur out = brR (n - 1) s (p + 1) [] (out ++ [cur]) := by
  obtain ⟨n, rfl⟩ : ∃ j, n = j + 1 := ⟨n - 1, by omega⟩
  rw [brR, if_pos h, if_pos h1, if_neg h2]; rfl
theorem brR_3 (hn : 0 < n) (h : ((p : Nat) : Int) < ((s.length : Nat) : Int)) (h1 : ¬ ((s.getD p 0).toNat : Int) = 124) (h2 : (setR s p).2.2 = false) : brR n s p cur out = none := by
  obtain ⟨n, rfl⟩ : ∃ j, n = j + 1 := ⟨n - 1, by omega⟩
  rw [brR, if_pos h, if_neg h1, if_pos h2]
theorem brR_4 (hn : 0 < n) (h : ((p : Nat) : Int) < ((s.length : Nat) : Int)) (h1 : ¬ ((s.getD p 0).toNat : Int) = 124) (h2 : ¬ (setR s p).2.2 = false) : brR n s p cur out = brR (n - 1) s (nxR s (setR s p).2.1) (addR cur (setR s p).1 (moR s (setR s p).2.1) ++ [({ Set := (setR s p).1, More := moT (moR s (setR s p).2.1) } : Piece)]) out := by
  obtain ⟨n, rfl⟩ : ∃ j, n = j + 1 := ⟨n - 1, by omega⟩
  rw [brR, if_pos h, if_neg h1, if_neg h2]; rfl
theorem brR_5 (hn : 0 < n) (h : ¬ ((p : Nat) : Int) < ((s.length : Nat) : Int)) (h2 : ((cur.length : Nat) : Int) = 0) : brR n s p cur out = none := by
  obtain ⟨n, rfl⟩ : ∃ j, n = j + 1 := ⟨n - 1, by omega⟩
  rw [brR, if_neg h, if_pos h2]
theorem brR_6 (hn : 0 < n) (h : ¬ ((p : Nat) : Int) < ((s.length : Nat) : Int)) (h2 : ¬ ((cur.length : Nat) : Int) = 0) : brR n s p cur out = some (out ++ [cur]) := by
  obtain ⟨n, rfl⟩ : ∃ j, n = j + 1 := ⟨n - 1, by omega⟩
  rw [brR, if_neg h, if_neg h2]
end
theorem refBranches_ok (s : List UInt8) (hb0 : s.length < 1000) : Pure Try.prog 27 [.s s] (.tup [.p ((eL (eL ePiece 38 dPiece) 1 []) (brOf (branchesR s))), vbool ((branchesR s).isSome)]) := by
  refine pure_of (fn := Try.f27) Try.func27 rfl rfl fun F_ W0_ => ?_
  refine tr_seq ?_
  refine tr_r (vc := []) (E' := [(0, none, vstr s)]) (H' := []) [] [] [0] (by kernel_rfl) ?_ ?_
  · exact trivial
  refine tr_then ?_
  refine tr_seq ?_
  refine tr_r (vc := []) (E' := [(0, none, vstr s), (4, none, .p (.v (.slice none 0 0)))]) (H' := []) [] [] [0, 4] (by kernel_rfl) ?_ ?_
  · exact trivial
  refine tr_then ?_
  refine tr_seq ?_
  refine tr_r (vc := []) (E' := [(0, none, vstr s), (4, none, .p (.v (.slice none 0 0))), (5, none, .p (.v (.slice none 0 0)))]) (H' := []) [] [] [0, 4, 5] (by kernel_rfl) ?_ ?_
  · exact trivial
  refine tr_then ?_
  refine tr_seq ?_
  refine tr_r (vc := []) (E' := [(0, none, vstr s), (4, none, .p (.v (.slice none 0 0))), (5, none, .p (.v (.slice none 0 0))), (6, none, vint .i64 0)]) (H' := []) [] [] [0, 4, 5, 6] (by kernel_rfl) ?_ ?_
  · exact trivial
  refine tr_then ?_
  refine tr_seq ?_
  refine tr_block ?_
  refine tr_loop (α := Nat × Nat × (List Piece) × (List (List Piece))) (fun z : Nat × Nat × (List Piece) × (List (List Piece)) => (fun (n : Nat) (p : Nat) (cur : List Piece) (out : List (List Piece)) => [(0, none, vstr s), (4, none, .own 0), (5, none, .own 1), (6, none, vint .i64 ((p : Nat) : Int))]) z.1 z.2.1 z.2.2.1 z.2.2.2) (fun z : Nat × Nat × (List Piece) × (List (List Piece)) => (fun (n : Nat) (p : Nat) (cur : List Piece) (out : List (List Piece)) => [oL 54 (eL ePiece 38 dPiece) 1 [] out, oL 95 ePiece 38 dPiece cur]) z.1 z.2.1 z.2.2.1 z.2.2.2) (fun z : Nat × Nat × (List Piece) × (List (List Piece)) => (fun (n : Nat) (p : Nat) (cur : List Piece) (out : List (List Piece)) => (brR n s p cur out = branchesR s) ∧ (s.length < n + p) ∧ (p ≤ s.length) ∧ (cur.length ≤ 2 * p) ∧ (out.length ≤ p)) z.1 z.2.1 z.2.2.1 z.2.2.2) (fun z : Nat × Nat × (List Piece) × (List (List Piece)) => (fun (n : Nat) (p : Nat) (cur : List Piece) (out : List (List Piece)) => s.length - p) z.1 z.2.1 z.2.2.1 z.2.2.2) ((s.length + 1), 0, ([] : List Piece), ([] : List (List Piece))) ?_ ?_ ?_
  · show (brR (s.length + 1) s 0 ([] : List Piece) ([] : List (List Piece)) = branchesR s) ∧ (s.length < (s.length + 1) + 0) ∧ (0 ≤ s.length) ∧ (([] : List Piece).length ≤ 2 * 0) ∧ (([] : List (List Piece)).length ≤ 0)
    refine ⟨?_, ?_, ?_, ?_, ?_⟩
    · rfl
    · first | omega | (intro hg; simp at hg; omega) | (simp; done) | (simp_all; done) | (simp_all; omega) | grind
    · first | omega | (intro hg; simp at hg; omega) | (simp; done) | (simp_all; done) | (simp_all; omega) | grind
    · first | omega | (intro hg; simp at hg; omega) | (simp; done) | (simp_all; done) | (simp_all; omega) | grind
    · first | omega | (intro hg; simp at hg; omega) | (simp; done) | (simp_all; done) | (simp_all; omega) | grind
  · intro A_ W_ hS
    replace hS := sl_nil 4 54 1 (fun i => .p ((eL ePiece 38 dPiece) (([] : List (List Piece)).getD i []))) (by kernel_rfl) hS
    replace hS := sl_nil 5 95 38 (fun i => .p (ePiece (([] : List Piece).getD i dPiece))) (by kernel_rfl) hS
    replace hS := sl_set (d := vint .i64 0) 6 (vint .i64 ((0 : Nat) : Int)) (by kernel_rfl) (eqD_int (by first | omega | (intro hg; simp at hg; omega) | (simp; done) | (simp_all; done) | (simp_all; omega) | grind)) hS
    exact sl_weak (vc := [∀ i, i < ([] : List (List Piece)).length → D.p ((eL ePiece 38 dPiece) (([] : List (List Piece)).getD i [])) = .p ((eL ePiece 38 dPiece) (([] : List (List Piece)).getD i [])), ∀ i, i < ([] : List Piece).length → D.p (ePiece (([] : List Piece).getD i dPiece)) = .p (ePiece (([] : List Piece).getD i dPiece))]) [0, 1] [0, 4, 5, 6] (by kernel_rfl) (al (fun _ _ => rfl) (al (fun _ _ => rfl) trivial)) hS
  · intro z hz
    obtain ⟨n, p, cur, out⟩ := z
    have hz : (brR n s p cur out = branchesR s) ∧ (s.length < n + p) ∧ (p ≤ s.length) ∧ (cur.length ≤ 2 * p) ∧ (out.length ≤ p) := hz
    obtain ⟨hi0_0, hi0_1, hi0_2, hi0_3, hi0_4⟩ := hz
    have hsl := fun (h : p < s.length) (h1 : ¬ (setR s p).2.2 = false) => setR_le (s := s) (p := p) h (eq_true_of_ne_false h1)
    have hnx := nxR_le (s := s) (q := (setR s p).2.1)
    have hal := addR_len (cur := cur) (x := (setR s p).1) (m := moR s (setR s p).2.1)
    refine tr_seq ?_
    refine tr_seq ?_
    refine tr_r (vc := []) (E' := [(0, none, vstr s), (4, none, .own 0), (5, none, .own 1), (6, none, vint .i64 ((p : Nat) : Int)), (14, none, vbool (decide (((p : Nat) : Int) < ((s.length : Nat) : Int))))]) (H' := [oL 54 (eL ePiece 38 dPiece) 1 [] out, oL 95 ePiece 38 dPiece cur]) [] [] [0, 4, 5, 6, 14] (by kernel_rfl) ?_ ?_
    · exact trivial
    refine tr_then ?_
    refine tr_condP (decide (((p : Nat) : Int) < ((s.length : Nat) : Int))) (((p : Nat) : Int) < ((s.length : Nat) : Int)) (by simp) (by kernel_rfl) (fun hc1 => ?_) (fun hc1 => ?_)
    · skip
      refine tr_skip ?_
      refine tr_then ?_
      refine tr_block ?_
      refine tr_seq ?_
      refine tr_seq ?_
      refine tr_r (vc := [(0 : Int) ≤ ((p : Nat) : Int), ((p : Nat) : Int) < (s.length : Int)]) (E' := [(0, none, vstr s), (4, none, .own 0), (5, none, .own 1), (6, none, vint .i64 ((p : Nat) : Int)), (18, none, vbool (((s.getD p 0).toNat : Int) == 124))]) (H' := [oL 54 (eL ePiece 38 dPiece) 1 [] out, oL 95 ePiece 38 dPiece cur]) [] [] [0, 4, 5, 6, 18] (by kernel_rfl) ?_ ?_
      · refine al ?_ (al ?_ (trivial))
        · first | omega | (intro hg; simp at hg; omega) | (simp; done) | (simp_all; done) | (simp_all; omega) | grind
        · first | omega | (intro hg; simp at hg; omega) | (simp; done) | (simp_all; done) | (simp_all; omega) | grind
      refine tr_then ?_
      refine tr_condP (((s.getD p 0).toNat : Int) == 124) (((s.getD p 0).toNat : Int) = 124) (by simp) (by kernel_rfl) (fun hc2 => ?_) (fun hc2 => ?_)
      · skip
        refine tr_seq ?_
        refine tr_seq ?_
        refine tr_r (vc := []) (E' := [(0, none, vstr s), (4, none, .own 0), (5, none, .own 1), (6, none, vint .i64 ((p : Nat) : Int)), (21, none, vbool (((cur.length : Nat) : Int) == 0))]) (H' := [oL 54 (eL ePiece 38 dPiece) 1 [] out, oL 95 ePiece 38 dPiece cur]) [] [] [0, 4, 5, 6, 21] (by kernel_rfl) ?_ ?_
        · exact trivial
        refine tr_then ?_
        refine tr_condP (((cur.length : Nat) : Int) == 0) (((cur.length : Nat) : Int) = 0) (by simp) (by kernel_rfl) (fun hc3 => ?_) (fun hc3 => ?_)
        · skip
          refine tr_seq ?_
          refine tr_r (vc := []) (E' := [(2, none, .p (.v (.slice none 0 0))), (3, none, vbool false)]) (H' := [oL 54 (eL ePiece 38 dPiece) 1 [] out, oL 95 ePiece 38 dPiece cur]) [] [] [2, 3] (by kernel_rfl) ?_ ?_
          · exact trivial
          refine tr_then ?_
          refine tr_pre (E' := [(2, none, .p (.v (.slice none 0 0))), (3, none, vbool false)]) (H' := []) (fun A_ W_ hS => sl_weak (vc := []) [] [2, 3] (by kernel_rfl) trivial hS) ?_
          refine tr_pre (E' := (2, none, .p ((eL (eL ePiece 38 dPiece) 1 []) (brOf (branchesR s)))) :: [(2, none, .p (.v (.slice none 0 0))), (3, none, vbool false)]) (H' := []) (fun A_ W_ hS => sl_set_imp (d := .p (.v (.slice none 0 0))) 2 (.p ((eL (eL ePiece 38 dPiece) 1 []) (brOf (branchesR s)))) (by kernel_rfl) ?_ hS) ?_
          · refine imp_nil (brOf (branchesR s)) ?_
            rw [← hi0_0]; first | (rw [brR_1 (by omega) hc1 hc2 hc3]; rfl) | (rw [brR_3 (by omega) hc1 hc2 hc4]; rfl) | (rw [brR_5 (by omega) hc1 hc7]; rfl) | (rw [brR_6 (by omega) hc1 hc7]; rfl)
          refine tr_pre (E' := [(2, none, .p ((eL (eL ePiece 38 dPiece) 1 []) (brOf (branchesR s)))), (3, none, vbool false)]) (H' := []) (fun A_ W_ hS => sl_proj (ts := [2, 3]) (by kernel_rfl) hS) ?_
          refine tr_pre (E' := (3, none, vbool ((branchesR s).isSome)) :: [(2, none, .p ((eL (eL ePiece 38 dPiece) 1 []) (brOf (branchesR s)))), (3, none, vbool false)]) (H' := []) (fun A_ W_ hS => sl_set_imp (d := vbool false) 3 (vbool ((branchesR s).isSome)) (by kernel_rfl) ?_ hS) ?_
          · refine imp_eq (congrArg (fun x => D.p (eB x)) (a₁ := false) (a₂ := ((branchesR s).isSome)) ?_)
            rw [← hi0_0]; first | (rw [brR_1 (by omega) hc1 hc2 hc3]; rfl) | (rw [brR_3 (by omega) hc1 hc2 hc4]; rfl) | (rw [brR_5 (by omega) hc1 hc7]; rfl) | (rw [brR_6 (by omega) hc1 hc7]; rfl)
          refine tr_pre (E' := [(2, none, .p ((eL (eL ePiece 38 dPiece) 1 []) (brOf (branchesR s)))), (3, none, vbool ((branchesR s).isSome))]) (H' := []) (fun A_ W_ hS => sl_proj (ts := [2, 3]) (by kernel_rfl) hS) ?_
          exact tr_return' (vc := []) (ds := [.p ((eL (eL ePiece 38 dPiece) 1 []) (brOf (branchesR s))), vbool ((branchesR s).isSome)]) (by kernel_rfl) trivial (by kernel_rfl) (fun _ _ h => h)
        · skip
          refine tr_skip ?_
          refine tr_then ?_
          refine tr_seq ?_
          refine tr_pre (E' := [(0, none, vstr s), (4, none, .own 0), (5, none, .p ((eL ePiece 38 dPiece) cur)), (6, none, vint .i64 ((p : Nat) : Int)), (21, none, vbool (((cur.length : Nat) : Int) == 0))]) (H' := [oL 54 (eL ePiece 38 dPiece) 1 [] out, .dead]) (fun A_ W_ hS => sl_freeze (vc := [∀ j, j < cur.length → D.p (ePiece (cur.getD j dPiece)) = .p ((fun j => ePiece (cur.getD j dPiece)) j), ∀ i, i < out.length → D.p ((eL ePiece 38 dPiece) (out.getD i [])) = .p ((eL ePiece 38 dPiece) (out.getD i []))]) 1 (fun j => ePiece (cur.getD j dPiece)) (by kernel_rfl) (al (fun _ _ => rfl) (al (fun _ _ => rfl) trivial)) hS) ?_
          refine tr_r (vc := [∀ j, j < 1 → ([(eL ePiece 38 dPiece) cur] : List PV).getD j default = (fun i => (eL ePiece 38 dPiece) (([cur]).getD i [])) j, (out.length + (([cur]).length)) * 24 ≤ 140737488355328]) (E' := [(0, none, vstr s), (4, none, .own 2), (6, none, vint .i64 ((p : Nat) : Int))]) (H' := [.dead, .dead, .arr 54 1 (out.length + ([cur]).length) (appF (fun i => .p ((eL ePiece 38 dPiece) (out.getD i []))) out.length (fun j => .p ((eL ePiece 38 dPiece) (([cur]).getD j []))))]) [] [(2, .p ((eL (eL ePiece 38 dPiece) 1 []) ([cur])))] [0, 4, 6] (by kernel_rfl) ?_ ?_
          · refine al ?_ (al ?_ (trivial))
            · exact lit_pv (e := (eL ePiece 38 dPiece)) (d := []) (l := [cur])
            · first | omega | (intro hg; simp at hg; omega) | (simp; done) | (simp_all; done) | (simp_all; omega) | grind
          refine nm_pre (E' := [(0, none, vstr s), (4, none, .own 2), (6, none, vint .i64 ((p : Nat) : Int))]) (H' := [.dead, .dead, oL 54 (eL ePiece 38 dPiece) 1 [] (out ++ ([cur]))]) (fun A_ W_ hS => sl_arr (n := (out.length + ([cur]).length)) (n' := (out ++ ([cur])).length) (f := appF (fun i => .p ((eL ePiece 38 dPiece) (out.getD i []))) out.length (fun j => .p ((eL ePiece 38 dPiece) (([cur]).getD j [])))) 2 (fun i => .p ((eL ePiece 38 dPiece) ((out ++ ([cur])).getD i []))) (by kernel_rfl) (by simp) (by first | exact appN | exact nilN | exact app0 | exact nilV _) hS) ?_
          refine tr_then ?_
          refine tr_seq ?_
          refine tr_r (vc := []) (E' := [(0, none, vstr s), (4, none, .own 2), (5, none, .p (.v (.slice none 0 0))), (6, none, vint .i64 ((p : Nat) : Int))]) (H' := [.dead, .dead, oL 54 (eL ePiece 38 dPiece) 1 [] (out ++ ([cur]))]) [] [] [0, 4, 5, 6] (by kernel_rfl) ?_ ?_
          · exact trivial
          refine tr_then ?_
          refine tr_seq ?_
          refine tr_r (vc := [(IntKind.wrap .i64 (((p : Nat) : Int) + 1)) = (((p + 1) : Nat) : Int)]) (E' := [(0, none, vstr s), (4, none, .own 2), (5, none, .p (.v (.slice none 0 0))), (6, none, vint .i64 (((p + 1) : Nat) : Int))]) (H' := [.dead, .dead, oL 54 (eL ePiece 38 dPiece) 1 [] (out ++ ([cur]))]) [(1, vint .i64 (((p + 1) : Nat) : Int))] [] [0, 4, 5, 6] (by kernel_rfl) ?_ ?_
          · refine al ?_ (trivial)
            · exact wr64 (by omega) (by omega) (by omega)
          refine tr_then ?_
          refine tr_exit ?_
          refine th_e ?_
          refine in_hit ?_
          refine lp_end ((n - 1), (p + 1), ([] : List Piece), (out ++ ([cur]))) ?_ ?_ ?_
          · show (brR (n - 1) s (p + 1) ([] : List Piece) (out ++ ([cur])) = branchesR s) ∧ (s.length < (n - 1) + (p + 1)) ∧ ((p + 1) ≤ s.length) ∧ (([] : List Piece).length ≤ 2 * (p + 1)) ∧ ((out ++ ([cur])).length ≤ (p + 1))
            refine ⟨?_, ?_, ?_, ?_, ?_⟩
            · rw [← hi0_0]; first | (rw [brR_2 (n := n) (by omega) hc1 hc2 hc3]; done) | (rw [brR_4 (n := n) (by omega) hc1 hc2 hc4]; done)
            · first | omega | (intro hg; simp at hg; omega) | (simp; done) | (simp_all; done) | (simp_all; omega) | grind
            · first | omega | (intro hg; simp at hg; omega) | (simp; done) | (simp_all; done) | (simp_all; omega) | grind
            · first | omega | (intro hg; simp at hg; omega) | (simp; done) | (simp_all; done) | (simp_all; omega) | grind
            · first | omega | (intro hg; simp at hg; omega) | (simp; done) | (simp_all; done) | (simp_all; omega) | grind
          · show s.length - (p + 1) < s.length - p
            first | omega | (have h1 := hsl (by omega) hc4; have h2 := hnx h1.2; omega)
          · intro A_ W_ hS
            replace hS := sl_nil 5 95 38 (fun i => .p (ePiece (([] : List Piece).getD i dPiece))) (by kernel_rfl) hS
            exact sl_weak (vc := [∀ i, i < (out ++ ([cur])).length → D.p ((eL ePiece 38 dPiece) ((out ++ ([cur])).getD i [])) = .p ((eL ePiece 38 dPiece) ((out ++ ([cur])).getD i [])), ∀ i, i < ([] : List Piece).length → D.p (ePiece (([] : List Piece).getD i dPiece)) = .p (ePiece (([] : List Piece).getD i dPiece))]) [2, 3] [0, 4, 5, 6] (by kernel_rfl) (al (fun _ _ => rfl) (al (fun _ _ => rfl) trivial)) hS
      · skip
        refine tr_skip ?_
        refine tr_then ?_
        refine tr_seq ?_
        refine tr_r (vc := [Pure Try.prog 46 [.s s, .v (.int .i64 ((p : Nat) : Int))] (.tup [.p ((eA eB 1 37) ((setR s p).1)), vint .i64 (((setR s p).2.1 : Nat) : Int), vbool ((setR s p).2.2)])]) (E' := [(0, none, vstr s), (4, none, .own 0), (5, none, .own 1), (7, none, .ref 2 []), (8, none, vint .i64 (((setR s p).2.1 : Nat) : Int)), (9, none, vbool ((setR s p).2.2))]) (H' := [oL 54 (eL ePiece 38 dPiece) 1 [] out, oL 95 ePiece 38 dPiece cur, .box (.p ((eA eB 1 37) ((setR s p).1)))]) [] [(2, .tup [.p ((eA eB 1 37) ((setR s p).1)), vint .i64 (((setR s p).2.1 : Nat) : Int), vbool ((setR s p).2.2)])] [0, 4, 5, 7, 8, 9] (by kernel_rfl) ?_ ?_
        · refine al ?_ (trivial)
          · exact refSet_ok _ _ (by omega) (by omega)
        refine tr_then ?_
        refine tr_seq ?_
        refine tr_seq ?_
        refine tr_r (vc := []) (E' := [(0, none, vstr s), (4, none, .own 0), (5, none, .own 1), (7, none, .ref 2 []), (8, none, vint .i64 (((setR s p).2.1 : Nat) : Int)), (36, none, vbool (!((setR s p).2.2)))]) (H' := [oL 54 (eL ePiece 38 dPiece) 1 [] out, oL 95 ePiece 38 dPiece cur, .box (.p ((eA eB 1 37) ((setR s p).1)))]) [] [] [0, 4, 5, 7, 8, 36] (by kernel_rfl) ?_ ?_
        · exact trivial
        refine tr_then ?_
        refine tr_condP (!((setR s p).2.2)) (((setR s p).2.2) = false) (by simp) (by kernel_rfl) (fun hc4 => ?_) (fun hc4 => ?_)
        · skip
          refine tr_seq ?_
          refine tr_r (vc := []) (E' := [(2, none, .p (.v (.slice none 0 0))), (3, none, vbool false)]) (H' := [oL 54 (eL ePiece 38 dPiece) 1 [] out, oL 95 ePiece 38 dPiece cur, .box (.p ((eA eB 1 37) ((setR s p).1)))]) [] [] [2, 3] (by kernel_rfl) ?_ ?_
          · exact trivial
          refine tr_then ?_
          refine tr_pre (E' := [(2, none, .p (.v (.slice none 0 0))), (3, none, vbool false)]) (H' := []) (fun A_ W_ hS => sl_weak (vc := []) [] [2, 3] (by kernel_rfl) trivial hS) ?_
          refine tr_pre (E' := (2, none, .p ((eL (eL ePiece 38 dPiece) 1 []) (brOf (branchesR s)))) :: [(2, none, .p (.v (.slice none 0 0))), (3, none, vbool false)]) (H' := []) (fun A_ W_ hS => sl_set_imp (d := .p (.v (.slice none 0 0))) 2 (.p ((eL (eL ePiece 38 dPiece) 1 []) (brOf (branchesR s)))) (by kernel_rfl) ?_ hS) ?_
          · refine imp_nil (brOf (branchesR s)) ?_
            rw [← hi0_0]; first | (rw [brR_1 (by omega) hc1 hc2 hc3]; rfl) | (rw [brR_3 (by omega) hc1 hc2 hc4]; rfl) | (rw [brR_5 (by omega) hc1 hc7]; rfl) | (rw [brR_6 (by omega) hc1 hc7]; rfl)
          refine tr_pre (E' := [(2, none, .p ((eL (eL ePiece 38 dPiece) 1 []) (brOf (branchesR s)))), (3, none, vbool false)]) (H' := []) (fun A_ W_ hS => sl_proj (ts := [2, 3]) (by kernel_rfl) hS) ?_
          refine tr_pre (E' := (3, none, vbool ((branchesR s).isSome)) :: [(2, none, .p ((eL (eL ePiece 38 dPiece) 1 []) (brOf (branchesR s)))), (3, none, vbool false)]) (H' := []) (fun A_ W_ hS => sl_set_imp (d := vbool false) 3 (vbool ((branchesR s).isSome)) (by kernel_rfl) ?_ hS) ?_
          · refine imp_eq (congrArg (fun x => D.p (eB x)) (a₁ := false) (a₂ := ((branchesR s).isSome)) ?_)
            rw [← hi0_0]; first | (rw [brR_1 (by omega) hc1 hc2 hc3]; rfl) | (rw [brR_3 (by omega) hc1 hc2 hc4]; rfl) | (rw [brR_5 (by omega) hc1 hc7]; rfl) | (rw [brR_6 (by omega) hc1 hc7]; rfl)
          refine tr_pre (E' := [(2, none, .p ((eL (eL ePiece 38 dPiece) 1 []) (brOf (branchesR s)))), (3, none, vbool ((branchesR s).isSome))]) (H' := []) (fun A_ W_ hS => sl_proj (ts := [2, 3]) (by kernel_rfl) hS) ?_
          exact tr_return' (vc := []) (ds := [.p ((eL (eL ePiece 38 dPiece) 1 []) (brOf (branchesR s))), vbool ((branchesR s).isSome)]) (by kernel_rfl) trivial (by kernel_rfl) (fun _ _ h => h)
        · skip
          refine tr_skip ?_
          refine tr_then ?_
          refine tr_seq ?_
          refine tr_r (vc := []) (E' := [(0, none, vstr s), (4, none, .own 0), (5, none, .own 1), (6, none, vint .i64 (((setR s p).2.1 : Nat) : Int)), (7, none, .ref 2 [])]) (H' := [oL 54 (eL ePiece 38 dPiece) 1 [] out, oL 95 ePiece 38 dPiece cur, .box (.p ((eA eB 1 37) ((setR s p).1)))]) [] [] [0, 4, 5, 6, 7] (by kernel_rfl) ?_ ?_
          · exact trivial
          refine tr_then ?_
          refine tr_seq ?_
          refine tr_r (vc := []) (E' := [(0, none, vstr s), (4, none, .own 0), (5, none, .own 1), (6, none, vint .i64 (((setR s p).2.1 : Nat) : Int)), (7, none, .ref 2 []), (10, none, vint .u8 0)]) (H' := [oL 54 (eL ePiece 38 dPiece) 1 [] out, oL 95 ePiece 38 dPiece cur, .box (.p ((eA eB 1 37) ((setR s p).1)))]) [] [] [0, 4, 5, 6, 7, 10] (by kernel_rfl) ?_ ?_
          · exact trivial
          refine tr_then ?_
          refine tr_join (α := Unit) (fun z : Unit => [(0, none, vstr s), (4, none, .own 0), (5, none, .own 1), (6, none, vint .i64 (((nxR s (setR s p).2.1) : Nat) : Int)), (7, none, .ref 2 []), (10, none, vint .u8 (moR s (setR s p).2.1))]) (fun z : Unit => [oL 54 (eL ePiece 38 dPiece) 1 [] out, oL 95 ePiece 38 dPiece cur, .box (.p ((eA eB 1 37) ((setR s p).1)))]) (fun z : Unit => True) ?_ ?_
          · intro z hz
            refine tr_join (α := Unit) (fun z : Unit => [(0, none, vstr s), (4, none, .own 0), (5, none, .own 1), (6, none, vint .i64 (((nxR s (setR s p).2.1) : Nat) : Int)), (7, none, .ref 2 []), (10, none, vint .u8 (moT (moR s (setR s p).2.1)))]) (fun z : Unit => [oL 54 (eL ePiece 38 dPiece) 1 [] out, oL 95 ePiece 38 dPiece (addR cur (setR s p).1 (moR s (setR s p).2.1)), .box (.p ((eA eB 1 37) ((setR s p).1)))]) (fun z : Unit => True) ?_ ?_
            · intro z hz
              refine tr_r (vc := [∀ j, j < 1 → ([.agg [(eA eB 1 37) ((setR s p).1), .v (.int .u8 (moT (moR s (setR s p).2.1)))]] : List PV).getD j default = (fun i => ePiece (([({ Set := (setR s p).1, More := (moT (moR s (setR s p).2.1)) } : Piece)]).getD i dPiece)) j, (((addR cur (setR s p).1 (moR s (setR s p).2.1)).length) + (([({ Set := (setR s p).1, More := (moT (moR s (setR s p).2.1)) } : Piece)]).length)) * 38 ≤ 140737488355328]) (E' := [(0, none, vstr s), (4, none, .own 0), (5, none, .own 3), (6, none, vint .i64 (((nxR s (setR s p).2.1) : Nat) : Int))]) (H' := [oL 54 (eL ePiece 38 dPiece) 1 [] out, .dead, .box (.p ((eA eB 1 37) ((setR s p).1))), .arr 95 38 ((addR cur (setR s p).1 (moR s (setR s p).2.1)).length + ([({ Set := (setR s p).1, More := (moT (moR s (setR s p).2.1)) } : Piece)]).length) (appF (fun i => .p (ePiece ((addR cur (setR s p).1 (moR s (setR s p).2.1)).getD i dPiece))) ((addR cur (setR s p).1 (moR s (setR s p).2.1)).length) (fun j => .p (ePiece (([({ Set := (setR s p).1, More := (moT (moR s (setR s p).2.1)) } : Piece)]).getD j dPiece))))]) [] [(4, .p ((eL ePiece 38 dPiece) ([({ Set := (setR s p).1, More := (moT (moR s (setR s p).2.1)) } : Piece)])))] [0, 4, 5, 6] (by kernel_rfl) ?_ ?_
              · refine al ?_ (al ?_ (trivial))
                · exact lit_pv (e := ePiece) (d := dPiece) (l := [({ Set := (setR s p).1, More := (moT (moR s (setR s p).2.1)) } : Piece)])
                · first | omega | (intro hg; simp at hg; omega) | (simp; done) | (simp_all; done) | (simp_all; omega) | grind
              refine nm_pre (E' := [(0, none, vstr s), (4, none, .own 0), (5, none, .own 3), (6, none, vint .i64 (((nxR s (setR s p).2.1) : Nat) : Int))]) (H' := [oL 54 (eL ePiece 38 dPiece) 1 [] out, .dead, .box (.p ((eA eB 1 37) ((setR s p).1))), oL 95 ePiece 38 dPiece ((addR cur (setR s p).1 (moR s (setR s p).2.1)) ++ ([({ Set := (setR s p).1, More := (moT (moR s (setR s p).2.1)) } : Piece)]))]) (fun A_ W_ hS => sl_arr (n := ((addR cur (setR s p).1 (moR s (setR s p).2.1)).length + ([({ Set := (setR s p).1, More := (moT (moR s (setR s p).2.1)) } : Piece)]).length)) (n' := ((addR cur (setR s p).1 (moR s (setR s p).2.1)) ++ ([({ Set := (setR s p).1, More := (moT (moR s (setR s p).2.1)) } : Piece)])).length) (f := appF (fun i => .p (ePiece ((addR cur (setR s p).1 (moR s (setR s p).2.1)).getD i dPiece))) ((addR cur (setR s p).1 (moR s (setR s p).2.1)).length) (fun j => .p (ePiece (([({ Set := (setR s p).1, More := (moT (moR s (setR s p).2.1)) } : Piece)]).getD j dPiece)))) 3 (fun i => .p (ePiece (((addR cur (setR s p).1 (moR s (setR s p).2.1)) ++ ([({ Set := (setR s p).1, More := (moT (moR s (setR s p).2.1)) } : Piece)])).getD i dPiece))) (by kernel_rfl) (by simp) (by first | exact appN | exact nilN | exact app0 | exact nilV _) hS) ?_
              refine in_n ?_
              refine lp_end ((n - 1), (nxR s (setR s p).2.1), ((addR cur (setR s p).1 (moR s (setR s p).2.1)) ++ ([({ Set := (setR s p).1, More := (moT (moR s (setR s p).2.1)) } : Piece)])), out) ?_ ?_ ?_
              · show (brR (n - 1) s (nxR s (setR s p).2.1) ((addR cur (setR s p).1 (moR s (setR s p).2.1)) ++ ([({ Set := (setR s p).1, More := (moT (moR s (setR s p).2.1)) } : Piece)])) out = branchesR s) ∧ (s.length < (n - 1) + (nxR s (setR s p).2.1)) ∧ ((nxR s (setR s p).2.1) ≤ s.length) ∧ (((addR cur (setR s p).1 (moR s (setR s p).2.1)) ++ ([({ Set := (setR s p).1, More := (moT (moR s (setR s p).2.1)) } : Piece)])).length ≤ 2 * (nxR s (setR s p).2.1)) ∧ (out.length ≤ (nxR s (setR s p).2.1))
                refine ⟨?_, ?_, ?_, ?_, ?_⟩
                · rw [← hi0_0]; first | (rw [brR_2 (n := n) (by omega) hc1 hc2 hc3]; done) | (rw [brR_4 (n := n) (by omega) hc1 hc2 hc4]; done)
                · first | omega | (intro hg; simp at hg; omega) | (simp; done) | (simp_all; done) | (simp_all; omega) | grind
                · first | omega | (intro hg; simp at hg; omega) | (simp; done) | (simp_all; done) | (simp_all; omega) | grind
                · first | omega | (intro hg; simp at hg; omega) | (simp; done) | (simp_all; done) | (simp_all; omega) | grind
                · first | omega | (intro hg; simp at hg; omega) | (simp; done) | (simp_all; done) | (simp_all; omega) | grind
              · show s.length - (nxR s (setR s p).2.1) < s.length - p
                first | omega | (have h1 := hsl (by omega) hc4; have h2 := hnx h1.2; omega)
              · intro A_ W_ hS
                exact sl_weak (vc := [∀ i, i < out.length → D.p ((eL ePiece 38 dPiece) (out.getD i [])) = .p ((eL ePiece 38 dPiece) (out.getD i [])), ∀ i, i < ((addR cur (setR s p).1 (moR s (setR s p).2.1)) ++ ([({ Set := (setR s p).1, More := (moT (moR s (setR s p).2.1)) } : Piece)])).length → D.p (ePiece (((addR cur (setR s p).1 (moR s (setR s p).2.1)) ++ ([({ Set := (setR s p).1, More := (moT (moR s (setR s p).2.1)) } : Piece)])).getD i dPiece)) = .p (ePiece (((addR cur (setR s p).1 (moR s (setR s p).2.1)) ++ ([({ Set := (setR s p).1, More := (moT (moR s (setR s p).2.1)) } : Piece)])).getD i dPiece))]) [0, 3] [0, 4, 5, 6] (by kernel_rfl) (al (fun _ _ => rfl) (al (fun _ _ => rfl) trivial)) hS
            · skip
              refine tr_seq ?_
              refine tr_r (vc := []) (E' := [(0, none, vstr s), (4, none, .own 0), (5, none, .own 1), (6, none, vint .i64 (((nxR s (setR s p).2.1) : Nat) : Int)), (7, none, .ref 2 []), (10, none, vint .u8 (moR s (setR s p).2.1)), (66, none, vbool ((moR s (setR s p).2.1) == 43))]) (H' := [oL 54 (eL ePiece 38 dPiece) 1 [] out, oL 95 ePiece 38 dPiece cur, .box (.p ((eA eB 1 37) ((setR s p).1)))]) [] [] [0, 4, 5, 6, 7, 10, 66] (by kernel_rfl) ?_ ?_
              · exact trivial
              refine tr_then ?_
              refine tr_condP ((moR s (setR s p).2.1) == 43) ((moR s (setR s p).2.1) = 43) (by simp) (by kernel_rfl) (fun hc5 => ?_) (fun hc5 => ?_)
              · skip
                refine tr_seq ?_
                refine tr_r (vc := [∀ j, j < 1 → ([.agg [(eA eB 1 37) ((setR s p).1), .v (.int .u8 0)]] : List PV).getD j default = (fun i => ePiece (([({ Set := (setR s p).1, More := 0 } : Piece)]).getD i dPiece)) j, (cur.length + (([({ Set := (setR s p).1, More := 0 } : Piece)]).length)) * 38 ≤ 140737488355328]) (E' := [(0, none, vstr s), (4, none, .own 0), (5, none, .own 3), (6, none, vint .i64 (((nxR s (setR s p).2.1) : Nat) : Int)), (7, none, .ref 2 [])]) (H' := [oL 54 (eL ePiece 38 dPiece) 1 [] out, .dead, .box (.p ((eA eB 1 37) ((setR s p).1))), .arr 95 38 (cur.length + ([({ Set := (setR s p).1, More := 0 } : Piece)]).length) (appF (fun i => .p (ePiece (cur.getD i dPiece))) cur.length (fun j => .p (ePiece (([({ Set := (setR s p).1, More := 0 } : Piece)]).getD j dPiece))))]) [] [(3, .p ((eL ePiece 38 dPiece) ([({ Set := (setR s p).1, More := 0 } : Piece)])))] [0, 4, 5, 6, 7] (by kernel_rfl) ?_ ?_
                · refine al ?_ (al ?_ (trivial))
                  · exact lit_pv (e := ePiece) (d := dPiece) (l := [({ Set := (setR s p).1, More := 0 } : Piece)])
                  · first | omega | (intro hg; simp at hg; omega) | (simp; done) | (simp_all; done) | (simp_all; omega) | grind
                refine nm_pre (E' := [(0, none, vstr s), (4, none, .own 0), (5, none, .own 3), (6, none, vint .i64 (((nxR s (setR s p).2.1) : Nat) : Int)), (7, none, .ref 2 [])]) (H' := [oL 54 (eL ePiece 38 dPiece) 1 [] out, .dead, .box (.p ((eA eB 1 37) ((setR s p).1))), oL 95 ePiece 38 dPiece (cur ++ ([({ Set := (setR s p).1, More := 0 } : Piece)]))]) (fun A_ W_ hS => sl_arr (n := (cur.length + ([({ Set := (setR s p).1, More := 0 } : Piece)]).length)) (n' := (cur ++ ([({ Set := (setR s p).1, More := 0 } : Piece)])).length) (f := appF (fun i => .p (ePiece (cur.getD i dPiece))) cur.length (fun j => .p (ePiece (([({ Set := (setR s p).1, More := 0 } : Piece)]).getD j dPiece)))) 3 (fun i => .p (ePiece ((cur ++ ([({ Set := (setR s p).1, More := 0 } : Piece)])).getD i dPiece))) (by kernel_rfl) (by simp) (by first | exact appN | exact nilN | exact app0 | exact nilV _) hS) ?_
                refine tr_then ?_
                refine tr_r (vc := []) (E' := [(0, none, vstr s), (4, none, .own 0), (5, none, .own 3), (6, none, vint .i64 (((nxR s (setR s p).2.1) : Nat) : Int)), (7, none, .ref 2 []), (10, none, vint .u8 42)]) (H' := [oL 54 (eL ePiece 38 dPiece) 1 [] out, .dead, .box (.p ((eA eB 1 37) ((setR s p).1))), oL 95 ePiece 38 dPiece (cur ++ ([({ Set := (setR s p).1, More := 0 } : Piece)]))]) [] [] [0, 4, 5, 6, 7, 10] (by kernel_rfl) ?_ ?_
                · exact trivial
                refine jn_end () ?_ ?_
                · exact trivial
                · intro A_ W_ hS
                  replace hS := sl_set (d := vint .u8 42) 10 (vint .u8 (moT (moR s (setR s p).2.1))) (by kernel_rfl) (eqD_int (by first | (rw [moT, if_pos hc5]; done) | (rw [moT, if_neg hc5]; done))) hS
                  replace hS := sl_arr (e := 95) (sz := 38) (n := (cur ++ ([({ Set := (setR s p).1, More := 0 } : Piece)])).length) (n' := (addR cur (setR s p).1 (moR s (setR s p).2.1)).length) (f := (fun i => .p (ePiece ((cur ++ ([({ Set := (setR s p).1, More := 0 } : Piece)])).getD i dPiece)))) 3 (fun i => .p (ePiece ((addR cur (setR s p).1 (moR s (setR s p).2.1)).getD i dPiece))) (by kernel_rfl) (by first | (rw [addR, if_pos hc5]; done) | (rw [addR, if_neg hc5]; done)) (by first | (rw [addR, if_pos hc5]; exact fun _ _ => rfl) | (rw [addR, if_neg hc5]; exact fun _ _ => rfl)) hS
                  exact sl_weak (vc := [∀ i, i < out.length → D.p ((eL ePiece 38 dPiece) (out.getD i [])) = .p ((eL ePiece 38 dPiece) (out.getD i [])), ∀ i, i < (addR cur (setR s p).1 (moR s (setR s p).2.1)).length → D.p (ePiece ((addR cur (setR s p).1 (moR s (setR s p).2.1)).getD i dPiece)) = .p (ePiece ((addR cur (setR s p).1 (moR s (setR s p).2.1)).getD i dPiece))]) [0, 3, 2] [0, 4, 5, 6, 7, 10] (by kernel_rfl) (al (fun _ _ => rfl) (al (fun _ _ => rfl) trivial)) hS
              · skip
                refine tr_skip ?_
                refine jn_end () ?_ ?_
                · exact trivial
                · intro A_ W_ hS
                  replace hS := sl_set (d := vint .u8 (moR s (setR s p).2.1)) 10 (vint .u8 (moT (moR s (setR s p).2.1))) (by kernel_rfl) (eqD_int (by first | (rw [moT, if_pos hc5]; done) | (rw [moT, if_neg hc5]; done))) hS
                  replace hS := sl_arr (e := 95) (sz := 38) (n := cur.length) (n' := (addR cur (setR s p).1 (moR s (setR s p).2.1)).length) (f := (fun i => .p (ePiece (cur.getD i dPiece)))) 1 (fun i => .p (ePiece ((addR cur (setR s p).1 (moR s (setR s p).2.1)).getD i dPiece))) (by kernel_rfl) (by first | (rw [addR, if_pos hc5]; done) | (rw [addR, if_neg hc5]; done)) (by first | (rw [addR, if_pos hc5]; exact fun _ _ => rfl) | (rw [addR, if_neg hc5]; exact fun _ _ => rfl)) hS
                  exact sl_weak (vc := [∀ i, i < out.length → D.p ((eL ePiece 38 dPiece) (out.getD i [])) = .p ((eL ePiece 38 dPiece) (out.getD i [])), ∀ i, i < (addR cur (setR s p).1 (moR s (setR s p).2.1)).length → D.p (ePiece ((addR cur (setR s p).1 (moR s (setR s p).2.1)).getD i dPiece)) = .p (ePiece ((addR cur (setR s p).1 (moR s (setR s p).2.1)).getD i dPiece))]) [0, 1, 2] [0, 4, 5, 6, 7, 10] (by kernel_rfl) (al (fun _ _ => rfl) (al (fun _ _ => rfl) trivial)) hS
          · skip
            refine tr_seq ?_
            refine tr_r (vc := [(decide ((((setR s p).2.1 : Nat) : Int) < ((s.length : Nat) : Int))) = true → (decide ((((setR s p).2.1 : Nat) : Int) < ((s.length : Nat) : Int))) = true, (decide ((((setR s p).2.1 : Nat) : Int) < ((s.length : Nat) : Int))) = true → (decide ((((setR s p).2.1 : Nat) : Int) < ((s.length : Nat) : Int))) = true, (decide ((((setR s p).2.1 : Nat) : Int) < ((s.length : Nat) : Int))) = true → ((0 : Int) ≤ (((setR s p).2.1 : Nat) : Int)), (decide ((((setR s p).2.1 : Nat) : Int) < ((s.length : Nat) : Int))) = true → ((((setR s p).2.1 : Nat) : Int) < (s.length : Int)), (decide ((((setR s p).2.1 : Nat) : Int) < ((s.length : Nat) : Int))) = true → (decide ((((setR s p).2.1 : Nat) : Int) < ((s.length : Nat) : Int))) = true, (decide ((((setR s p).2.1 : Nat) : Int) < ((s.length : Nat) : Int))) = true → (decide ((((setR s p).2.1 : Nat) : Int) < ((s.length : Nat) : Int))) = true, ((decide ((((setR s p).2.1 : Nat) : Int) < ((s.length : Nat) : Int))) && (!(((s.getD ((setR s p).2.1) 0).toNat : Int) == 63))) = true → ((decide ((((setR s p).2.1 : Nat) : Int) < ((s.length : Nat) : Int))) && (!(((s.getD ((setR s p).2.1) 0).toNat : Int) == 63))) = true, ((decide ((((setR s p).2.1 : Nat) : Int) < ((s.length : Nat) : Int))) && (!(((s.getD ((setR s p).2.1) 0).toNat : Int) == 63))) = true → ((decide ((((setR s p).2.1 : Nat) : Int) < ((s.length : Nat) : Int))) && (!(((s.getD ((setR s p).2.1) 0).toNat : Int) == 63))) = true, ((decide ((((setR s p).2.1 : Nat) : Int) < ((s.length : Nat) : Int))) && (!(((s.getD ((setR s p).2.1) 0).toNat : Int) == 63))) = true → ((0 : Int) ≤ (((setR s p).2.1 : Nat) : Int)), ((decide ((((setR s p).2.1 : Nat) : Int) < ((s.length : Nat) : Int))) && (!(((s.getD ((setR s p).2.1) 0).toNat : Int) == 63))) = true → ((((setR s p).2.1 : Nat) : Int) < (s.length : Int)), ((decide ((((setR s p).2.1 : Nat) : Int) < ((s.length : Nat) : Int))) && (!(((s.getD ((setR s p).2.1) 0).toNat : Int) == 63))) = true → ((decide ((((setR s p).2.1 : Nat) : Int) < ((s.length : Nat) : Int))) && (!(((s.getD ((setR s p).2.1) 0).toNat : Int) == 63))) = true, (decide ((((setR s p).2.1 : Nat) : Int) < ((s.length : Nat) : Int))) = true → ((decide ((((setR s p).2.1 : Nat) : Int) < ((s.length : Nat) : Int))) = true → (decide ((((setR s p).2.1 : Nat) : Int) < ((s.length : Nat) : Int))) = true), ((decide ((((setR s p).2.1 : Nat) : Int) < ((s.length : Nat) : Int))) && (!(((s.getD ((setR s p).2.1) 0).toNat : Int) == 63))) = true → ((decide ((((setR s p).2.1 : Nat) : Int) < ((s.length : Nat) : Int))) && (!(((s.getD ((setR s p).2.1) 0).toNat : Int) == 63))) = true, (decide ((((setR s p).2.1 : Nat) : Int) < ((s.length : Nat) : Int))) = true → (decide ((((setR s p).2.1 : Nat) : Int) < ((s.length : Nat) : Int))) = true, ((decide ((((setR s p).2.1 : Nat) : Int) < ((s.length : Nat) : Int))) && (!((((s.getD ((setR s p).2.1) 0).toNat : Int) == 63) || (((s.getD ((setR s p).2.1) 0).toNat : Int) == 43)))) = true → ((decide ((((setR s p).2.1 : Nat) : Int) < ((s.length : Nat) : Int))) && (!((((s.getD ((setR s p).2.1) 0).toNat : Int) == 63) || (((s.getD ((setR s p).2.1) 0).toNat : Int) == 43)))) = true, ((decide ((((setR s p).2.1 : Nat) : Int) < ((s.length : Nat) : Int))) && (!((((s.getD ((setR s p).2.1) 0).toNat : Int) == 63) || (((s.getD ((setR s p).2.1) 0).toNat : Int) == 43)))) = true → ((decide ((((setR s p).2.1 : Nat) : Int) < ((s.length : Nat) : Int))) && (!((((s.getD ((setR s p).2.1) 0).toNat : Int) == 63) || (((s.getD ((setR s p).2.1) 0).toNat : Int) == 43)))) = true, ((decide ((((setR s p).2.1 : Nat) : Int) < ((s.length : Nat) : Int))) && (!((((s.getD ((setR s p).2.1) 0).toNat : Int) == 63) || (((s.getD ((setR s p).2.1) 0).toNat : Int) == 43)))) = true → ((0 : Int) ≤ (((setR s p).2.1 : Nat) : Int)), ((decide ((((setR s p).2.1 : Nat) : Int) < ((s.length : Nat) : Int))) && (!((((s.getD ((setR s p).2.1) 0).toNat : Int) == 63) || (((s.getD ((setR s p).2.1) 0).toNat : Int) == 43)))) = true → ((((setR s p).2.1 : Nat) : Int) < (s.length : Int)), ((decide ((((setR s p).2.1 : Nat) : Int) < ((s.length : Nat) : Int))) && (!((((s.getD ((setR s p).2.1) 0).toNat : Int) == 63) || (((s.getD ((setR s p).2.1) 0).toNat : Int) == 43)))) = true → ((decide ((((setR s p).2.1 : Nat) : Int) < ((s.length : Nat) : Int))) && (!((((s.getD ((setR s p).2.1) 0).toNat : Int) == 63) || (((s.getD ((setR s p).2.1) 0).toNat : Int) == 43)))) = true, (decide ((((setR s p).2.1 : Nat) : Int) < ((s.length : Nat) : Int))) = true → ((decide ((((setR s p).2.1 : Nat) : Int) < ((s.length : Nat) : Int))) = true → (decide ((((setR s p).2.1 : Nat) : Int) < ((s.length : Nat) : Int))) = true), ((decide ((((setR s p).2.1 : Nat) : Int) < ((s.length : Nat) : Int))) && (!((((s.getD ((setR s p).2.1) 0).toNat : Int) == 63) || (((s.getD ((setR s p).2.1) 0).toNat : Int) == 43)))) = true → ((decide ((((setR s p).2.1 : Nat) : Int) < ((s.length : Nat) : Int))) && (!((((s.getD ((setR s p).2.1) 0).toNat : Int) == 63) || (((s.getD ((setR s p).2.1) 0).toNat : Int) == 43)))) = true, (decide ((((setR s p).2.1 : Nat) : Int) < ((s.length : Nat) : Int))) = true → (decide ((((setR s p).2.1 : Nat) : Int) < ((s.length : Nat) : Int))) = true]) (E' := [(0, none, vstr s), (4, none, .own 0), (5, none, .own 1), (6, none, vint .i64 (((setR s p).2.1 : Nat) : Int)), (7, none, .ref 2 []), (10, none, vint .u8 0), (59, none, vbool ((decide ((((setR s p).2.1 : Nat) : Int) < ((s.length : Nat) : Int))) && (((((s.getD ((setR s p).2.1) 0).toNat : Int) == 63) || (((s.getD ((setR s p).2.1) 0).toNat : Int) == 43)) || (((s.getD ((setR s p).2.1) 0).toNat : Int) == 42))))]) (H' := [oL 54 (eL ePiece 38 dPiece) 1 [] out, oL 95 ePiece 38 dPiece cur, .box (.p ((eA eB 1 37) ((setR s p).1)))]) [] [] [0, 4, 5, 6, 7, 10, 59] (by kernel_rfl) ?_ ?_
            · refine al ?_ (al ?_ (al ?_ (al ?_ (al ?_ (al ?_ (al ?_ (al ?_ (al ?_ (al ?_ (al ?_ (al ?_ (al ?_ (al ?_ (al ?_ (al ?_ (al ?_ (al ?_ (al ?_ (al ?_ (al ?_ (al ?_ (trivial))))))))))))))))))))))
              · exact id
              · exact id
              · first | omega | (intro hg; simp at hg; omega) | (simp; done) | (simp_all; done) | (simp_all; omega) | grind
              · first | omega | (intro hg; simp at hg; omega) | (simp; done) | (simp_all; done) | (simp_all; omega) | grind
              · exact id
              · exact id
              · exact id
              · exact id
              · first | omega | (intro hg; simp at hg; omega) | (simp; done) | (simp_all; done) | (simp_all; omega) | grind
              · first | omega | (intro hg; simp at hg; omega) | (simp; done) | (simp_all; done) | (simp_all; omega) | grind
              · exact id
              · intro _; exact id
              · exact id
              · exact id
              · exact id
              · exact id
              · first | omega | (intro hg; simp at hg; omega) | (simp; done) | (simp_all; done) | (simp_all; omega) | grind
              · first | omega | (intro hg; simp at hg; omega) | (simp; done) | (simp_all; done) | (simp_all; omega) | grind
              · exact id
              · intro _; exact id
              · exact id
              · exact id
            refine tr_then ?_
            refine tr_condP ((decide ((((setR s p).2.1 : Nat) : Int) < ((s.length : Nat) : Int))) && (((((s.getD ((setR s p).2.1) 0).toNat : Int) == 63) || (((s.getD ((setR s p).2.1) 0).toNat : Int) == 43)) || (((s.getD ((setR s p).2.1) 0).toNat : Int) == 42))) (((((setR s p).2.1 : Nat) : Int) < ((s.length : Nat) : Int)) ∧ (((((s.getD ((setR s p).2.1) 0).toNat : Int) = 63) ∨ (((s.getD ((setR s p).2.1) 0).toNat : Int) = 43)) ∨ (((s.getD ((setR s p).2.1) 0).toNat : Int) = 42))) (by simp) (by kernel_rfl) (fun hc6 => ?_) (fun hc6 => ?_)
            · skip
              refine tr_seq ?_
              refine tr_r (vc := [(0 : Int) ≤ (((setR s p).2.1 : Nat) : Int), (((setR s p).2.1 : Nat) : Int) < (s.length : Int)]) (E' := [(0, none, vstr s), (4, none, .own 0), (5, none, .own 1), (6, none, vint .i64 (((setR s p).2.1 : Nat) : Int)), (7, none, .ref 2 []), (10, none, vint .u8 ((s.getD ((setR s p).2.1) 0).toNat : Int))]) (H' := [oL 54 (eL ePiece 38 dPiece) 1 [] out, oL 95 ePiece 38 dPiece cur, .box (.p ((eA eB 1 37) ((setR s p).1)))]) [] [] [0, 4, 5, 6, 7, 10] (by kernel_rfl) ?_ ?_
              · refine al ?_ (al ?_ (trivial))
                · first | omega | (intro hg; simp at hg; omega) | (simp; done) | (simp_all; done) | (simp_all; omega) | grind
                · first | omega | (intro hg; simp at hg; omega) | (simp; done) | (simp_all; done) | (simp_all; omega) | grind
              refine tr_then ?_
              refine tr_r (vc := [(IntKind.wrap .i64 ((((setR s p).2.1 : Nat) : Int) + 1)) = ((((setR s p).2.1 + 1) : Nat) : Int)]) (E' := [(0, none, vstr s), (4, none, .own 0), (5, none, .own 1), (6, none, vint .i64 ((((setR s p).2.1 + 1) : Nat) : Int)), (7, none, .ref 2 []), (10, none, vint .u8 ((s.getD ((setR s p).2.1) 0).toNat : Int))]) (H' := [oL 54 (eL ePiece 38 dPiece) 1 [] out, oL 95 ePiece 38 dPiece cur, .box (.p ((eA eB 1 37) ((setR s p).1)))]) [(1, vint .i64 ((((setR s p).2.1 + 1) : Nat) : Int))] [] [0, 4, 5, 6, 7, 10] (by kernel_rfl) ?_ ?_
              · refine al ?_ (trivial)
                · exact wr64 (by omega) (by omega) (by omega)
              refine jn_end () ?_ ?_
              · exact trivial
              · intro A_ W_ hS
                replace hS := sl_set (d := vint .i64 ((((setR s p).2.1 + 1) : Nat) : Int)) 6 (vint .i64 (((nxR s (setR s p).2.1) : Nat) : Int)) (by kernel_rfl) (eqD_int (by first | (rw [nxR, if_pos (show HasM s (setR s p).2.1 from hc6)]; done) | (rw [nxR, if_neg (show ¬ HasM s (setR s p).2.1 from hc6)]; done))) hS
                replace hS := sl_set (d := vint .u8 ((s.getD ((setR s p).2.1) 0).toNat : Int)) 10 (vint .u8 (moR s (setR s p).2.1)) (by kernel_rfl) (eqD_int (by first | (rw [moR, if_pos (show HasM s (setR s p).2.1 from hc6)]; done) | (rw [moR, if_neg (show ¬ HasM s (setR s p).2.1 from hc6)]; done))) hS
                exact sl_weak (vc := [∀ i, i < out.length → D.p ((eL ePiece 38 dPiece) (out.getD i [])) = .p ((eL ePiece 38 dPiece) (out.getD i [])), ∀ i, i < cur.length → D.p (ePiece (cur.getD i dPiece)) = .p (ePiece (cur.getD i dPiece))]) [0, 1, 2] [0, 4, 5, 6, 7, 10] (by kernel_rfl) (al (fun _ _ => rfl) (al (fun _ _ => rfl) trivial)) hS
            · skip
              refine tr_skip ?_
              refine jn_end () ?_ ?_
              · exact trivial
              · intro A_ W_ hS
                replace hS := sl_set (d := vint .i64 (((setR s p).2.1 : Nat) : Int)) 6 (vint .i64 (((nxR s (setR s p).2.1) : Nat) : Int)) (by kernel_rfl) (eqD_int (by first | (rw [nxR, if_pos (show HasM s (setR s p).2.1 from hc6)]; done) | (rw [nxR, if_neg (show ¬ HasM s (setR s p).2.1 from hc6)]; done))) hS
                replace hS := sl_set (d := vint .u8 0) 10 (vint .u8 (moR s (setR s p).2.1)) (by kernel_rfl) (eqD_int (by first | (rw [moR, if_pos (show HasM s (setR s p).2.1 from hc6)]; done) | (rw [moR, if_neg (show ¬ HasM s (setR s p).2.1 from hc6)]; done))) hS
                exact sl_weak (vc := [∀ i, i < out.length → D.p ((eL ePiece 38 dPiece) (out.getD i [])) = .p ((eL ePiece 38 dPiece) (out.getD i [])), ∀ i, i < cur.length → D.p (ePiece (cur.getD i dPiece)) = .p (ePiece (cur.getD i dPiece))]) [0, 1, 2] [0, 4, 5, 6, 7, 10] (by kernel_rfl) (al (fun _ _ => rfl) (al (fun _ _ => rfl) trivial)) hS
    · skip
      refine tr_exit ?_
      refine th_e ?_
      refine th_e ?_
      refine in_hit ?_
      refine tr_then ?_
      refine tr_seq ?_
      refine tr_seq ?_
      refine tr_r (vc := []) (E' := [(4, none, .own 0), (5, none, .own 1), (80, none, vbool (((cur.length : Nat) : Int) == 0))]) (H' := [oL 54 (eL ePiece 38 dPiece) 1 [] out, oL 95 ePiece 38 dPiece cur]) [] [] [4, 5, 80] (by kernel_rfl) ?_ ?_
      · exact trivial
      refine tr_then ?_
      refine tr_condP (((cur.length : Nat) : Int) == 0) (((cur.length : Nat) : Int) = 0) (by simp) (by kernel_rfl) (fun hc7 => ?_) (fun hc7 => ?_)
      · skip
        refine tr_seq ?_
        refine tr_r (vc := []) (E' := [(2, none, .p (.v (.slice none 0 0))), (3, none, vbool false)]) (H' := [oL 54 (eL ePiece 38 dPiece) 1 [] out, oL 95 ePiece 38 dPiece cur]) [] [] [2, 3] (by kernel_rfl) ?_ ?_
        · exact trivial
        refine tr_then ?_
        refine tr_pre (E' := [(2, none, .p (.v (.slice none 0 0))), (3, none, vbool false)]) (H' := []) (fun A_ W_ hS => sl_weak (vc := []) [] [2, 3] (by kernel_rfl) trivial hS) ?_
        refine tr_pre (E' := (2, none, .p ((eL (eL ePiece 38 dPiece) 1 []) (brOf (branchesR s)))) :: [(2, none, .p (.v (.slice none 0 0))), (3, none, vbool false)]) (H' := []) (fun A_ W_ hS => sl_set_imp (d := .p (.v (.slice none 0 0))) 2 (.p ((eL (eL ePiece 38 dPiece) 1 []) (brOf (branchesR s)))) (by kernel_rfl) ?_ hS) ?_
        · refine imp_nil (brOf (branchesR s)) ?_
          rw [← hi0_0]; first | (rw [brR_1 (by omega) hc1 hc2 hc3]; rfl) | (rw [brR_3 (by omega) hc1 hc2 hc4]; rfl) | (rw [brR_5 (by omega) hc1 hc7]; rfl) | (rw [brR_6 (by omega) hc1 hc7]; rfl)
        refine tr_pre (E' := [(2, none, .p ((eL (eL ePiece 38 dPiece) 1 []) (brOf (branchesR s)))), (3, none, vbool false)]) (H' := []) (fun A_ W_ hS => sl_proj (ts := [2, 3]) (by kernel_rfl) hS) ?_
        refine tr_pre (E' := (3, none, vbool ((branchesR s).isSome)) :: [(2, none, .p ((eL (eL ePiece 38 dPiece) 1 []) (brOf (branchesR s)))), (3, none, vbool false)]) (H' := []) (fun A_ W_ hS => sl_set_imp (d := vbool false) 3 (vbool ((branchesR s).isSome)) (by kernel_rfl) ?_ hS) ?_
        · refine imp_eq (congrArg (fun x => D.p (eB x)) (a₁ := false) (a₂ := ((branchesR s).isSome)) ?_)
          rw [← hi0_0]; first | (rw [brR_1 (by omega) hc1 hc2 hc3]; rfl) | (rw [brR_3 (by omega) hc1 hc2 hc4]; rfl) | (rw [brR_5 (by omega) hc1 hc7]; rfl) | (rw [brR_6 (by omega) hc1 hc7]; rfl)
        refine tr_pre (E' := [(2, none, .p ((eL (eL ePiece 38 dPiece) 1 []) (brOf (branchesR s)))), (3, none, vbool ((branchesR s).isSome))]) (H' := []) (fun A_ W_ hS => sl_proj (ts := [2, 3]) (by kernel_rfl) hS) ?_
        exact tr_return' (vc := []) (ds := [.p ((eL (eL ePiece 38 dPiece) 1 []) (brOf (branchesR s))), vbool ((branchesR s).isSome)]) (by kernel_rfl) trivial (by kernel_rfl) (fun _ _ h => h)
      · skip
        refine tr_skip ?_
        refine tr_then ?_
        refine tr_seq ?_
        refine tr_pre (E' := [(4, none, .own 0), (5, none, .p ((eL ePiece 38 dPiece) cur)), (80, none, vbool (((cur.length : Nat) : Int) == 0))]) (H' := [oL 54 (eL ePiece 38 dPiece) 1 [] out, .dead]) (fun A_ W_ hS => sl_freeze (vc := [∀ j, j < cur.length → D.p (ePiece (cur.getD j dPiece)) = .p ((fun j => ePiece (cur.getD j dPiece)) j), ∀ i, i < out.length → D.p ((eL ePiece 38 dPiece) (out.getD i [])) = .p ((eL ePiece 38 dPiece) (out.getD i []))]) 1 (fun j => ePiece (cur.getD j dPiece)) (by kernel_rfl) (al (fun _ _ => rfl) (al (fun _ _ => rfl) trivial)) hS) ?_
        refine tr_r (vc := [∀ j, j < 1 → ([(eL ePiece 38 dPiece) cur] : List PV).getD j default = (fun i => (eL ePiece 38 dPiece) (([cur]).getD i [])) j, (out.length + (([cur]).length)) * 24 ≤ 140737488355328]) (E' := [(2, none, .own 2), (3, none, vbool true)]) (H' := [.dead, .dead, .arr 54 1 (out.length + ([cur]).length) (appF (fun i => .p ((eL ePiece 38 dPiece) (out.getD i []))) out.length (fun j => .p ((eL ePiece 38 dPiece) (([cur]).getD j []))))]) [] [(2, .p ((eL (eL ePiece 38 dPiece) 1 []) ([cur])))] [2, 3] (by kernel_rfl) ?_ ?_
        · refine al ?_ (al ?_ (trivial))
          · exact lit_pv (e := (eL ePiece 38 dPiece)) (d := []) (l := [cur])
          · first | omega | (intro hg; simp at hg; omega) | (simp; done) | (simp_all; done) | (simp_all; omega) | grind
        refine nm_pre (E' := [(2, none, .own 2), (3, none, vbool true)]) (H' := [.dead, .dead, oL 54 (eL ePiece 38 dPiece) 1 [] (out ++ ([cur]))]) (fun A_ W_ hS => sl_arr (n := (out.length + ([cur]).length)) (n' := (out ++ ([cur])).length) (f := appF (fun i => .p ((eL ePiece 38 dPiece) (out.getD i []))) out.length (fun j => .p ((eL ePiece 38 dPiece) (([cur]).getD j [])))) 2 (fun i => .p ((eL ePiece 38 dPiece) ((out ++ ([cur])).getD i []))) (by kernel_rfl) (by simp) (by first | exact appN | exact nilN | exact app0 | exact nilV _) hS) ?_
        refine tr_then ?_
        refine tr_pre (E' := [(2, none, .own 0), (3, none, vbool true)]) (H' := [oL 54 (eL ePiece 38 dPiece) 1 [] (out ++ ([cur]))]) (fun A_ W_ hS => sl_weak (vc := [∀ i, i < (out ++ ([cur])).length → D.p ((eL ePiece 38 dPiece) ((out ++ ([cur])).getD i [])) = .p ((eL ePiece 38 dPiece) ((out ++ ([cur])).getD i []))]) [2] [2, 3] (by kernel_rfl) (al (fun _ _ => rfl) trivial) hS) ?_
        refine tr_pre (E' := [(2, none, .p ((eL (eL ePiece 38 dPiece) 1 []) (out ++ ([cur])))), (3, none, vbool true)]) (H' := [.dead]) (fun A_ W_ hS => sl_freeze (vc := [∀ j, j < (out ++ ([cur])).length → D.p ((eL ePiece 38 dPiece) ((out ++ ([cur])).getD j [])) = .p ((fun j => (eL ePiece 38 dPiece) ((out ++ ([cur])).getD j [])) j)]) 0 (fun j => (eL ePiece 38 dPiece) ((out ++ ([cur])).getD j [])) (by kernel_rfl) (al (fun _ _ => rfl) trivial) hS) ?_
        refine tr_pre (E' := (2, none, .p ((eL (eL ePiece 38 dPiece) 1 []) (brOf (branchesR s)))) :: [(2, none, .p ((eL (eL ePiece 38 dPiece) 1 []) (out ++ ([cur])))), (3, none, vbool true)]) (H' := [.dead]) (fun A_ W_ hS => sl_set_imp (d := .p ((eL (eL ePiece 38 dPiece) 1 []) (out ++ ([cur])))) 2 (.p ((eL (eL ePiece 38 dPiece) 1 []) (brOf (branchesR s)))) (by kernel_rfl) ?_ hS) ?_
        · refine imp_eq (congrArg (fun x => D.p ((eL (eL ePiece 38 dPiece) 1 []) x)) (a₁ := (out ++ ([cur]))) (a₂ := (brOf (branchesR s))) ?_)
          rw [← hi0_0]; first | (rw [brR_1 (by omega) hc1 hc2 hc3]; rfl) | (rw [brR_3 (by omega) hc1 hc2 hc4]; rfl) | (rw [brR_5 (by omega) hc1 hc7]; rfl) | (rw [brR_6 (by omega) hc1 hc7]; rfl)
        refine tr_pre (E' := [(2, none, .p ((eL (eL ePiece 38 dPiece) 1 []) (brOf (branchesR s)))), (3, none, vbool true)]) (H' := [.dead]) (fun A_ W_ hS => sl_proj (ts := [2, 3]) (by kernel_rfl) hS) ?_
        refine tr_pre (E' := (3, none, vbool ((branchesR s).isSome)) :: [(2, none, .p ((eL (eL ePiece 38 dPiece) 1 []) (brOf (branchesR s)))), (3, none, vbool true)]) (H' := [.dead]) (fun A_ W_ hS => sl_set_imp (d := vbool true) 3 (vbool ((branchesR s).isSome)) (by kernel_rfl) ?_ hS) ?_
        · refine imp_eq (congrArg (fun x => D.p (eB x)) (a₁ := true) (a₂ := ((branchesR s).isSome)) ?_)
          rw [← hi0_0]; first | (rw [brR_1 (by omega) hc1 hc2 hc3]; rfl) | (rw [brR_3 (by omega) hc1 hc2 hc4]; rfl) | (rw [brR_5 (by omega) hc1 hc7]; rfl) | (rw [brR_6 (by omega) hc1 hc7]; rfl)
        refine tr_pre (E' := [(2, none, .p ((eL (eL ePiece 38 dPiece) 1 []) (brOf (branchesR s)))), (3, none, vbool ((branchesR s).isSome))]) (H' := [.dead]) (fun A_ W_ hS => sl_proj (ts := [2, 3]) (by kernel_rfl) hS) ?_
        exact tr_return' (vc := []) (ds := [.p ((eL (eL ePiece 38 dPiece) 1 []) (brOf (branchesR s))), vbool ((branchesR s).isSome)]) (by kernel_rfl) trivial (by kernel_rfl) (fun _ _ h => h)
end Go.Proofs.Ytjnjmnfacaakfaa
namespace Go.Proofs.Ytjnjmnfacaakfaa
open Go.Eng
theorem bitOf_word {S : Nat → Bool} {c : Nat} (h : c < 64) : bitOf (word64 S) c = S c := by
  unfold bitOf word64
  rw [shr_u64 h]
  have e : ((1 : Nat) : Int) = 1 := rfl
  have hlt : wordN S 64 >>> c < 2 ^ 64 := Nat.lt_of_le_of_lt (Nat.shiftRight_le _ _) (wordN_lt S 64)
  rw [← e, and_u64 hlt (by decide), wordN_has S h]
  cases S c <;> rfl
def SetEq (S o : Nat → Bool) : Prop := ∀ c, c < 37 → S c = o c
theorem sym_45 (b : UInt8) : sym (b.toNat : Int) = 36 ↔ b = 45 := by
  constructor
  · intro h
    have hb := b.toNat_lt
    have : (b.toNat : Int) = 45 := by
      unfold sym at h
      split at h
      · omega
      · split at h
        · omega
        · split at h
          · assumption
          · omega
    exact UInt8.toNat_inj.1 (show b.toNat = 45 by omega)
  · rintro rfl; rfl
theorem ne_byte {b c : UInt8} (n : Nat) (hc : c.toNat = n) : ((b.toNat : Int) = (n : Int)) ↔ b = c := by
  subst hc
  constructor
  · intro h
    exact UInt8.toNat_inj.1 (by omega)
  · rintro rfl; rfl
theorem drop_next {s l : List UInt8} {b : UInt8} {p : Nat} (h : s.drop p = b :: l) : p < s.length ∧ s.getD p 0 = b ∧ s.drop (p + 1) = l := by
  have hp : p < s.length := by
    by_cases hp : p < s.length
    · exact hp
    · rw [List.drop_of_length_le (by omega)] at h; cases h
  rw [drop_get (d := 0) hp] at h
  injection h with h1 h2
  exact ⟨hp, h1, h2⟩
theorem hasPre_cons (b : UInt8) (l : List UInt8) : hasPre (b :: l) [45] = true ↔ b = 45 := by
  unfold hasPre
  simp
theorem setEq_one {S o : Nat → Bool} (h : SetEq S o) {a : Int} (h0 : 0 ≤ a) : SetEq (range S a (a + 1)) (orN o (upd noSet a.toNat true) 37) := by
  intro c hc
  unfold range orN upd noSet
  rw [if_pos hc, h c hc]
  congr 1
  by_cases he : c = a.toNat
  · rw [if_pos he, decide_eq_true (by omega)]
  · rw [if_neg he, decide_eq_false (by omega)]
theorem setEq_range {S o : Nat → Bool} (h : SetEq S o) {a b : Int} (h0 : 0 ≤ a) (h1 : a ≤ b) : SetEq (range S a (b + 1)) (orN o (range (upd noSet a.toNat true) a (b + 1)) 37) := by
  intro c hc
  unfold range orN
  rw [if_pos hc, h c hc]
  congr 1
  show decide (a ≤ (c : Int) ∧ (c : Int) < b + 1) = (upd noSet a.toNat true c || decide (a ≤ (c : Int) ∧ (c : Int) < b + 1))
  unfold upd noSet
  by_cases he : c = a.toNat
  · rw [if_pos he, decide_eq_true (by omega)]; rfl
  · rw [if_neg he, Bool.false_or]
/-- A class with its end: the program's and the reference's way through it. -/
theorem setL_memb {s rest : List UInt8} {f : Nat} : ∀ {n k p : Nat} {l : List UInt8} {S o : Nat → Bool}, s.drop p = l ++ 93 :: rest → (∀ b ∈ l, b ≠ 93) → l.length ≤ k → l.length < n → (f < p ∨ f = p ∧ ∃ b l', l = b :: l' ∧ b ≠ 45) → SetEq S o →
    (memb k l S = none ∧ (setL n s f p o).2.2 = false) ∨ ∃ S', memb k l S = some S' ∧ (setL n s f p o).2.2 = true ∧ (setL n s f p o).2.1 = p + l.length + 1 ∧ SetEq S' (setL n s f p o).1
  | 0, _, _, _, _, _, _, _, _, h, _, _ => by omega
  | n + 1, k, p, [], S, o, hd, _, _, _, hf, hS => by
    have hf : f < p := hf.elim id fun ⟨_, b, l', h, _⟩ => by cases h
    obtain ⟨hp, h1, h2⟩ := drop_next hd
    refine .inr ⟨S, memb_nil rfl, ?_⟩
    have e : setL (n + 1) s f p o = (o, p + 1, decide (((p : Nat) : Int) < ((s.length : Nat) : Int)) && decide (((f : Nat) : Int) < ((p : Nat) : Int))) := by
      refine setL_3 (by omega) fun h => h.2 ?_
      rw [h1]; rfl
    rw [e]
    exact ⟨by simp; omega, by simp, hS⟩
  | n + 1, k, p, b :: l, S, o, hd, h93, hk, hn, hf, hS => by
    obtain ⟨hp, h1, h2⟩ := drop_next hd
    simp only [List.length_cons] at hk hn
    have hb : b ≠ 93 := h93 b (by simp)
    have hgo : ((p : Nat) : Int) < ((s.length : Nat) : Int) ∧ ((s.getD p 0).toNat : Int) ≠ 93 := ⟨by omega, by rw [h1]; exact fun h => hb ((ne_byte 93 rfl).1 h)⟩
    have es0 : s0 (b :: l) = sym (b.toNat : Int) := rfl
    have em0 : m0 s p = sym (b.toNat : Int) := by unfold m0; rw [h1]
    have q1 := sym_le (b.toNat : Int)
    have q2 := sym_ge (b.toNat : Int)
    have bad : (memF s f p).2.2 = false → (setL (n + 1) s f p o).2.2 = false := fun h => by rw [setL_1 (by omega) hgo h]
    have emF : memF s f p = memR s p (((p : Nat) : Int) == ((f : Nat) : Int)) := rfl
    by_cases c1 : sym (b.toNat : Int) < 0
    · refine .inl ⟨memb_1 (by simp) (by simpa using hk) (.inl (by rw [es0]; exact c1)), bad ?_⟩
      rw [emF, memR, if_pos (by rw [em0]; exact c1)]
    by_cases c2 : sym (b.toNat : Int) = 36
    · have hf : f < p := hf.elim id fun ⟨_, b', l', h, h'⟩ => by
        injection h with h3 h4
        exact absurd (h3 ▸ (sym_45 b).1 c2) h'
      refine .inl ⟨memb_1 (by simp) (by simpa using hk) (.inr (by rw [es0]; exact c2)), bad ?_⟩
      rw [emF, memR, if_neg (by rw [em0]; omega), if_pos (by rw [em0]; exact c2)]
      show (((p : Nat) : Int) == ((f : Nat) : Int)) = false
      rw [beq_eq_false_iff_ne]; omega
    have n1 : ¬ (s0 (b :: l) < 0 ∨ s0 (b :: l) = 36) := by rw [es0]; omega
    have m1 : ¬ m0 s p < 0 := by rw [em0]; exact c1
    have m2 : ¬ m0 s p = 36 := by rw [em0]; exact c2
    have hdr : (b :: l).drop 1 = l := rfl
    by_cases c3 : hasPre l [45] = true
    · match l, c3, hd, h93, hk, hn, h2, n1, es0, hdr with
      | [], c3, _, _, _, _, _, _, _, _ => simp [hasPre] at c3
      | d :: l2, c3, hd, h93, hk, hn, h2, n1, es0, hdr =>
        obtain rfl := (hasPre_cons d l2).1 c3
        simp only [List.length_cons] at hk hn
        obtain ⟨hp1, g1, g2⟩ := drop_next h2
        have m3 : ¬ (((s.length : Nat) : Int) ≤ ((p + 1 : Nat) : Int) ∨ ((s.getD (p + 1) 0).toNat : Int) ≠ 45) := by
          rw [g1]; intro h; rcases h with h | h
          · omega
          · exact h rfl
        match l2, hd, h93, hk, hn, h2, n1, es0, hdr, c3, g2 with
        | [], hd, h93, hk, hn, h2, n1, es0, hdr, c3, g2 =>
          obtain ⟨hp2, g3, g4⟩ := drop_next g2
          refine .inl ⟨memb_2 (by simp) (by simp; omega) n1 c3 (by simp), bad ?_⟩
          have e2 : m0 s (p + 2) = -1 := by unfold m0; rw [show p + 2 = p + 1 + 1 from rfl, g3]; rfl
          rw [emF, memR, if_neg m1, if_neg m2, if_neg m3, if_neg (by omega), if_pos (.inl (.inl (by rw [e2]; omega)))]
        | e :: l3, hd, h93, hk, hn, h2, n1, es0, hdr, c3, g2 =>
          obtain ⟨hp2, g3, g4⟩ := drop_next g2
          simp only [List.length_cons] at hk hn
          have es1 : s1 (b :: 45 :: e :: l3) = sym (e.toNat : Int) := rfl
          have em1 : m0 s (p + 2) = sym (e.toNat : Int) := by unfold m0; rw [show p + 2 = p + 1 + 1 from rfl, g3]
          by_cases c4 : (sym (e.toNat : Int) < sym (b.toNat : Int) ∨ sym (e.toNat : Int) = 36) ∨ sym (b.toNat : Int) < 26 ∧ 26 ≤ sym (e.toNat : Int)
          · refine .inl ⟨memb_3 (by simp) (by simp; omega) n1 c3 (by simp) (by rw [es0, es1]; exact c4), bad ?_⟩
            rw [emF, memR, if_neg m1, if_neg m2, if_neg m3, if_neg (by omega), if_pos (by rw [em0, em1]; exact c4)]
          · have e1 : memb k (b :: 45 :: e :: l3) S = memb (k - 1) l3 (range S (sym (b.toNat : Int)) (sym (e.toNat : Int) + 1)) := by
              rw [memb_4 (by simp) (by simp; omega) n1 c3 (by simp) (by rw [es0, es1]; exact c4), es0, es1]; rfl
            have e2 : memF s f p = (range (memS s p) (m0 s p) (m0 s (p + 2) + 1), p + 3, true) := by
              rw [emF, memR, if_neg m1, if_neg m2, if_neg m3, if_neg (by omega), if_neg (by rw [em0, em1]; exact c4)]
            rw [e1, setL_2 (by omega) hgo (by rw [e2]; simp), e2]
            have eS : memS s p = upd noSet (sym (b.toNat : Int)).toNat true := by unfold memS; rw [em0]
            rw [em0, em1, eS]
            have ih := setL_memb (s := s) (rest := rest) (f := f) (n := n) (k := k - 1) (p := p + 3) (l := l3) (S := range S (sym (b.toNat : Int)) (sym (e.toNat : Int) + 1))
              (o := orN o (range (upd noSet (sym (b.toNat : Int)).toNat true) (sym (b.toNat : Int)) (sym (e.toNat : Int) + 1)) 37)
              g4 (fun x hx => h93 x (by simp [hx])) (by omega) (by omega) (by left; omega) (setEq_range hS (by omega) (by omega))
            rw [Nat.add_sub_cancel]
            rcases ih with ⟨i1, i2⟩ | ⟨S', i1, i2, i3, i4⟩
            · exact .inl ⟨i1, i2⟩
            · exact .inr ⟨S', i1, i2, by rw [i3]; simp only [List.length_cons]; omega, i4⟩
    · have m3 : ((s.length : Nat) : Int) ≤ ((p + 1 : Nat) : Int) ∨ ((s.getD (p + 1) 0).toNat : Int) ≠ 45 := by
        right
        match l, c3, h2 with
        | [], _, h2 =>
          obtain ⟨_, g1, _⟩ := drop_next h2
          rw [g1]; decide
        | d :: l2, c3, h2 =>
          obtain ⟨_, g1, _⟩ := drop_next h2
          rw [g1]
          exact fun h => c3 ((hasPre_cons d l2).2 ((ne_byte 45 rfl).1 h))
      have e1 : memb k (b :: l) S = memb (k - 1) l (range S (sym (b.toNat : Int)) (sym (b.toNat : Int) + 1)) := by
        rw [memb_5 (by simp) (by simpa using hk) n1 c3, es0]; rfl
      have e2 : memF s f p = (memS s p, p + 1, true) := by
        rw [emF, memR, if_neg m1, if_neg m2, if_pos m3]
      rw [e1, setL_2 (by omega) hgo (by rw [e2]; simp), e2]
      have eS : memS s p = upd noSet (sym (b.toNat : Int)).toNat true := by unfold memS; rw [em0]
      rw [eS, Nat.add_sub_cancel]
      have ih := setL_memb (s := s) (rest := rest) (f := f) (n := n) (k := k - 1) (p := p + 1) (l := l) (S := range S (sym (b.toNat : Int)) (sym (b.toNat : Int) + 1)) (o := orN o (upd noSet (sym (b.toNat : Int)).toNat true) 37)
        h2 (fun x hx => h93 x (by simp [hx])) (by omega) (by omega) (by left; omega) (setEq_one hS (by omega))
      rcases ih with ⟨i1, i2⟩ | ⟨S', i1, i2, i3, i4⟩
      · exact .inl ⟨i1, i2⟩
      · exact .inr ⟨S', i1, i2, by rw [i3]; simp only [List.length_cons]; omega, i4⟩
end Go.Proofs.Ytjnjmnfacaakfaa
