/-
  LanguageParses: whatever the input, the call returns true, and each argument reads afterwards as it read before. (Part 5 of 9 of its proof.)
-/
import Derived.Test.YtjnjmnfacaakfaaCP4
import Derived.Test.YtjnjmnfacaakfaaRows
import Derived.RangeFuncFrom
import Derived.RangeFuncLeaves
import Derived.TacticsInMore
import Derived.RangeFuncBox
import Derived.Lib.Walk
import Derived.RangeFuncWrites
import Derived.OwnWalkIn
import Derived.Shelf.Abstract
import Derived.LoopNIn
import Derived.LoopIn
namespace Go.Proofs.Ytjnjmnfacaakfaa
open Go.Eng
def orTo (prev : List Bool) (row : List Int) : Nat → Bool
  | 0 => false
  | c + 1 => orTo prev row c || (decide (0 ≤ row.getD c 0) && prev.getD (row.getD c 0).toNat false)
/-- The row of the next length, behind the first k states and c symbols of the state k. -/
def rowC (l : Lang) (prev : List Bool) (k c : Nat) : List Bool := (List.range l.Accept.length).map fun q =>
  if q < k then orTo prev (l.Next.getD q []) (l.Next.getD q []).length else if q = k then orTo prev (l.Next.getD k []) c else false
def leadR (l : Lang) : Nat → List Bool
  | 0 => l.Accept
  | n + 1 => rowC l (leadR l n) l.Next.length 0
def leadsL (l : Lang) (n : Nat) : List (List Bool) := (List.range (n + 1)).map (leadR l)
section
variable {l : Lang} {prev : List Bool} {k c : Nat}
theorem rowC_len : (rowC l prev k c).length = l.Accept.length := by simp [rowC]
theorem leadR_len : ∀ n, (leadR l n).length = l.Accept.length
  | 0 => rfl
  | n + 1 => rowC_len
theorem rowC_start : List.replicate l.Accept.length false = rowC l prev 0 0 := by
  apply List.ext_getElem (by simp [rowC])
  intro i h1 h2
  simp [rowC, orTo]
theorem rowC_next : rowC l prev k (l.Next.getD k []).length = rowC l prev (k + 1) 0 := by
  unfold rowC
  apply List.map_congr_left
  intro q hq
  by_cases h : q < k
  · rw [if_pos h, if_pos (by omega)]
  · rw [if_neg h]
    by_cases h1 : q = k
    · subst h1; rw [if_pos rfl, if_pos (by omega)]
    · rw [if_neg h1, if_neg (by omega)]
      split <;> rfl
theorem rowC_get (h : k < l.Accept.length) : (rowC l prev k c).getD k false = orTo prev (l.Next.getD k []) c := by
  simp [rowC, List.getD_eq_getElem?_getD, List.getElem?_map, List.getElem?_range h]
theorem rowC_set (h : k < l.Accept.length) : (rowC l prev k c).set k (orTo prev (l.Next.getD k []) c || (decide (0 ≤ (l.Next.getD k []).getD c 0) && prev.getD ((l.Next.getD k []).getD c 0).toNat false)) = rowC l prev k (c + 1) := by
  apply List.ext_getElem (by simp [rowC])
  intro i h1 h2
  rw [List.getElem_set]
  split
  · rename_i e
    subst e
    simp only [rowC, List.getElem_map, List.getElem_range, Nat.lt_irrefl, if_false, if_true, orTo]
  · rename_i e
    simp only [rowC, List.getElem_map, List.getElem_range]
    have e' : ¬ i = k := fun h => e h.symm
    simp only [if_neg e']
theorem leadsL_get {n i : Nat} (h : i ≤ n) : (leadsL l n).getD i [] = leadR l i := by
  simp [leadsL, List.getD_eq_getElem?_getD, List.getElem?_map, List.getElem?_range (show i < n + 1 by omega)]
theorem leadsL_len {n : Nat} : (leadsL l n).length = n + 1 := by simp [leadsL]
theorem leadsL_next {n : Nat} : leadsL l n ++ [leadR l (n + 1)] = leadsL l (n + 1) := by
  unfold leadsL
  rw [List.range_succ (n := n + 1), List.map_append]
  rfl
end
theorem words_ok (l : Lang) (hok : check l = 0) : Pure Try.prog 41 [eLang l, .v (.int .i64 12)] (.fn 49 [.p (.pel ((eL (eL eB 1 false) 1 []) (leadsL l 12))), .p (.pel (eLang l)), .p (.pel (.v (.int .i64 12)))]) := by
  obtain ⟨f1, f2, f3, f4⟩ := check_facts hok
  refine pure_of (fn := Try.f41) Try.func41 rfl rfl fun F_ W0_ => ?_
  refine tr_seq ?_
  refine tr_r (vc := []) (E' := [(2, none, .ref 0 []), (3, none, .ref 1 [])]) (H' := [.box (.p (eLang l)), .box (vint .i64 12)]) [] [] [2, 3] (by kernel_rfl) ?_ ?_
  · exact trivial
  refine tr_then (tr_seq ?_)
  refine tr_r (vc := []) (E' := [(2, none, .ref 0 []), (3, none, .ref 1 []), (5, none, .ref 3 [])]) (H' := [.box (.p (eLang l)), .box (vint .i64 12), .arr 29 1 1 (fun j => ([.p ((eL eB 1 false) l.Accept)] : List D).getD j default), .box (.own 2)]) [] [] [2, 3, 5] (by kernel_rfl) ?_ ?_
  · exact trivial
  refine nm_pre (E' := [(2, none, .ref 0 []), (3, none, .ref 1 []), (5, none, .ref 3 [])]) (H' := [.box (.p (eLang l)), .box (vint .i64 12), oL 29 (eL eB 1 false) 1 [] ([l.Accept]), .box (.own 2)]) (fun A_ W_ hS => sl_arr (n := 1) (n' := ([l.Accept]).length) (f := fun j => ([.p ((eL eB 1 false) l.Accept)] : List D).getD j default) 2 (fun i => .p ((eL eB 1 false) (([l.Accept]).getD i []))) (by kernel_rfl) (rfl) (by exact lit_getD (e := (eL eB 1 false)) (d := []) (l := [l.Accept])) hS) ?_
  refine tr_then (tr_seq ?_)
  refine tr_seq ?_
  refine tr_r (vc := []) (E' := [(2, none, .ref 0 []), (3, none, .ref 1 []), (5, none, .ref 3 []), (15, none, vint .i64 12), (16, none, vint .i64 0)]) (H' := [.box (.p (eLang l)), .box (vint .i64 12), oL 29 (eL eB 1 false) 1 [] ([l.Accept]), .box (.own 2)]) [] [] [2, 3, 5, 15, 16] (by kernel_rfl) ?_ ?_
  · exact trivial
  refine tr_then ?_
  refine tr_block ?_
  refine tr_loop (α := Nat) (fun z : Nat => (fun (n0 : Nat) => [(2, none, .ref 0 []), (3, none, .ref 1 []), (5, none, .ref 3 []), (15, none, vint .i64 12), (16, none, vint .i64 ((n0 : Nat) : Int))]) z) (fun z : Nat => (fun (n0 : Nat) => [.box (.p (eLang l)), .box (vint .i64 12), oL 29 (eL eB 1 false) 1 [] (leadsL l n0), .box (.own 2)]) z) (fun z : Nat => (fun (n0 : Nat) => (n0 ≤ 12)) z) (fun z : Nat => (fun (n0 : Nat) => 12 - n0) z) 0 ?_ ?_ ?_
  · show (0 ≤ 12)
    · omega
  · intro A_ W_ hS
    replace hS := sl_set (d := vint .i64 0) 16 (vint .i64 ((0 : Nat) : Int)) (by kernel_rfl) (eqD_int (by omega)) hS
    replace hS := sl_arr (e := 29) (sz := 1) (n := ([l.Accept]).length) (n' := (leadsL l 0).length) (f := (fun i => .p ((eL eB 1 false) (([l.Accept]).getD i [])))) 2 (fun i => .p ((eL eB 1 false) ((leadsL l 0).getD i []))) (by kernel_rfl) (by rfl) (by intro j hj; rfl) hS
    exact sl_weak (vc := [∀ i, i < (leadsL l 0).length → D.p ((eL eB 1 false) ((leadsL l 0).getD i [])) = .p ((eL eB 1 false) ((leadsL l 0).getD i []))]) [0, 1, 2, 3] [2, 3, 5, 15, 16] (by kernel_rfl) (al (fun _ _ => rfl) trivial) hS
  · intro z hz
    revert z; intro n0 hz
    have hz : (n0 ≤ 12) := hz
    have hi0_0 := hz
    have hll := leadsL_len (l := l) (n := n0)
    have hlr := leadR_len (l := l) n0
    have hlg := leadsL_get (l := l) (Nat.le_refl n0)
    refine tr_seq ?_
    refine tr_r (vc := []) (E' := [(2, none, .ref 0 []), (3, none, .ref 1 []), (5, none, .ref 3 []), (15, none, vint .i64 12), (16, none, vint .i64 ((n0 : Nat) : Int)), (17, none, vbool (decide (((n0 : Nat) : Int) < 12)))]) (H' := [.box (.p (eLang l)), .box (vint .i64 12), oL 29 (eL eB 1 false) 1 [] (leadsL l n0), .box (.own 2)]) [] [] [2, 3, 5, 15, 16, 17] (by kernel_rfl) ?_ ?_
    · exact trivial
    refine tr_then (tr_seq ?_)
    refine tr_condP (decide (((n0 : Nat) : Int) < 12)) (((n0 : Nat) : Int) < 12) (by simp) (by kernel_rfl) (fun hc1 => ?_) (fun hc1 => ?_)
    · skip
      refine tr_skip ?_
      refine tr_then (tr_seq ?_)
      refine tr_block ?_
      refine tr_seq ?_
      refine tr_r (vc := []) (E' := [(2, none, .ref 0 []), (3, none, .ref 1 []), (5, none, .ref 3 []), (6, none, vint .i64 ((n0 : Nat) : Int)), (15, none, vint .i64 12), (16, none, vint .i64 ((n0 : Nat) : Int))]) (H' := [.box (.p (eLang l)), .box (vint .i64 12), oL 29 (eL eB 1 false) 1 [] (leadsL l n0), .box (.own 2)]) [] [] [2, 3, 5, 6, 15, 16] (by kernel_rfl) ?_ ?_
      · exact trivial
      refine tr_then (tr_seq ?_)
      refine tr_r (vc := [(0 : Int) ≤ ((l.Accept.length : Nat) : Int), (((l.Accept.length : Nat) : Int) : Int) ≤ ((l.Accept.length : Nat) : Int), (1 : Int) * ((l.Accept.length : Nat) : Int) ≤ 140737488355328, (((l.Accept.length : Nat) : Int) : Int) ≤ 9223372036854775807]) (E' := [(2, none, .ref 0 []), (3, none, .ref 1 []), (5, none, .ref 3 []), (6, none, vint .i64 ((n0 : Nat) : Int)), (7, none, .own 4), (15, none, vint .i64 12), (16, none, vint .i64 ((n0 : Nat) : Int))]) (H' := [.box (.p (eLang l)), .box (vint .i64 12), oL 29 (eL eB 1 false) 1 [] (leadsL l n0), .box (.own 2), .arr 4 1 l.Accept.length (fun _ => vbool false)]) [] [] [2, 3, 5, 6, 7, 15, 16] (by kernel_rfl) ?_ ?_
      · refine al ?_ (al ?_ (al ?_ (al ?_ (trivial))))
        · omega
        · omega
        · omega
        · omega
      refine nm_pre (E' := [(2, none, .ref 0 []), (3, none, .ref 1 []), (5, none, .ref 3 []), (6, none, vint .i64 ((n0 : Nat) : Int)), (7, none, .own 4), (15, none, vint .i64 12), (16, none, vint .i64 ((n0 : Nat) : Int))]) (H' := [.box (.p (eLang l)), .box (vint .i64 12), oL 29 (eL eB 1 false) 1 [] (leadsL l n0), .box (.own 2), oL 4 eB 1 false (List.replicate l.Accept.length false)]) (fun A_ W_ hS => sl_arr (n := l.Accept.length) (n' := (List.replicate l.Accept.length false).length) (f := fun _ => vbool false) 4 (fun i => .p (eB ((List.replicate l.Accept.length false).getD i false))) (by kernel_rfl) (by simp) (by exact makeN (e := eB) (d := false)) hS) ?_
      refine tr_then (tr_seq ?_)
      refine tr_seq ?_
      refine tr_r (vc := []) (E' := [(2, none, .ref 0 []), (3, none, .ref 1 []), (5, none, .ref 3 []), (6, none, vint .i64 ((n0 : Nat) : Int)), (7, none, .own 4), (15, none, vint .i64 12), (16, none, vint .i64 ((n0 : Nat) : Int)), (24, none, .p ((eL (eL eI 1 0) 1 []) l.Next)), (25, none, vint .i64 ((l.Next.length : Nat) : Int)), (26, none, vint .i64 0)]) (H' := [.box (.p (eLang l)), .box (vint .i64 12), oL 29 (eL eB 1 false) 1 [] (leadsL l n0), .box (.own 2), oL 4 eB 1 false (List.replicate l.Accept.length false)]) [] [] [2, 3, 5, 6, 7, 15, 16, 24, 25, 26] (by kernel_rfl) ?_ ?_
      · exact trivial
      refine tr_then ?_
      refine tr_block ?_
      refine tr_loop (α := Nat) (fun z : Nat => (fun (k : Nat) => [(2, none, .ref 0 []), (3, none, .ref 1 []), (5, none, .ref 3 []), (6, none, vint .i64 ((n0 : Nat) : Int)), (7, none, .own 4), (15, none, vint .i64 12), (16, none, vint .i64 ((n0 : Nat) : Int)), (24, none, .p ((eL (eL eI 1 0) 1 []) l.Next)), (25, none, vint .i64 ((l.Next.length : Nat) : Int)), (26, none, vint .i64 ((k : Nat) : Int))]) z) (fun z : Nat => (fun (k : Nat) => [.box (.p (eLang l)), .box (vint .i64 12), oL 29 (eL eB 1 false) 1 [] (leadsL l n0), .box (.own 2), oL 4 eB 1 false (rowC l (leadR l n0) k 0)]) z) (fun z : Nat => (fun (k : Nat) => (k ≤ l.Next.length)) z) (fun z : Nat => (fun (k : Nat) => l.Next.length - k) z) 0 ?_ ?_ ?_
      · show (0 ≤ l.Next.length)
        · omega
      · intro A_ W_ hS
        replace hS := sl_set (d := vint .i64 0) 26 (vint .i64 ((0 : Nat) : Int)) (by kernel_rfl) (eqD_int (by omega)) hS
        replace hS := sl_arr (e := 4) (sz := 1) (n := (List.replicate l.Accept.length false).length) (n' := (rowC l (leadR l n0) 0 0).length) (f := (fun i => .p (eB ((List.replicate l.Accept.length false).getD i false)))) 4 (fun i => .p (eB ((rowC l (leadR l n0) 0 0).getD i false))) (by kernel_rfl) (by rw [rowC_start (l := l) (prev := leadR l n0)]) (by intro j hj; rw [rowC_start (l := l) (prev := leadR l n0)]) hS
        exact sl_weak (vc := [∀ i, i < (leadsL l n0).length → D.p ((eL eB 1 false) ((leadsL l n0).getD i [])) = .p ((eL eB 1 false) ((leadsL l n0).getD i [])), ∀ i, i < (rowC l (leadR l n0) 0 0).length → D.p (eB ((rowC l (leadR l n0) 0 0).getD i false)) = .p (eB ((rowC l (leadR l n0) 0 0).getD i false))]) [0, 1, 2, 3, 4] [2, 3, 5, 6, 7, 15, 16, 24, 25, 26] (by kernel_rfl) (al (fun _ _ => rfl) (al (fun _ _ => rfl) trivial)) hS
      · intro z hz
        revert z; intro k hz
        have hz : (k ≤ l.Next.length) := hz
        have hi1_0 := hz
        have hrow := f4 k
        refine tr_seq ?_
        refine tr_r (vc := []) (E' := [(2, none, .ref 0 []), (3, none, .ref 1 []), (5, none, .ref 3 []), (6, none, vint .i64 ((n0 : Nat) : Int)), (7, none, .own 4), (15, none, vint .i64 12), (16, none, vint .i64 ((n0 : Nat) : Int)), (24, none, .p ((eL (eL eI 1 0) 1 []) l.Next)), (25, none, vint .i64 ((l.Next.length : Nat) : Int)), (26, none, vint .i64 ((k : Nat) : Int)), (27, none, vbool (decide (((k : Nat) : Int) < ((l.Next.length : Nat) : Int))))]) (H' := [.box (.p (eLang l)), .box (vint .i64 12), oL 29 (eL eB 1 false) 1 [] (leadsL l n0), .box (.own 2), oL 4 eB 1 false (rowC l (leadR l n0) k 0)]) [] [] [2, 3, 5, 6, 7, 15, 16, 24, 25, 26, 27] (by kernel_rfl) ?_ ?_
        · exact trivial
        refine tr_then (tr_seq ?_)
        refine tr_condP (decide (((k : Nat) : Int) < ((l.Next.length : Nat) : Int))) (((k : Nat) : Int) < ((l.Next.length : Nat) : Int)) (by simp) (by kernel_rfl) (fun hc2 => ?_) (fun hc2 => ?_)
        · skip
          refine tr_skip ?_
          refine tr_then (tr_seq ?_)
          refine tr_block ?_
          refine tr_seq ?_
          refine tr_r (vc := [(0 : Int) ≤ ((k : Nat) : Int), ((k : Nat) : Int) < (l.Next.length : Int)]) (E' := [(2, none, .ref 0 []), (3, none, .ref 1 []), (5, none, .ref 3 []), (6, none, vint .i64 ((n0 : Nat) : Int)), (7, none, .own 4), (8, none, vint .i64 ((k : Nat) : Int)), (9, none, .p ((eL eI 1 0) (l.Next.getD k []))), (15, none, vint .i64 12), (16, none, vint .i64 ((n0 : Nat) : Int)), (24, none, .p ((eL (eL eI 1 0) 1 []) l.Next)), (25, none, vint .i64 ((l.Next.length : Nat) : Int)), (26, none, vint .i64 ((k : Nat) : Int))]) (H' := [.box (.p (eLang l)), .box (vint .i64 12), oL 29 (eL eB 1 false) 1 [] (leadsL l n0), .box (.own 2), oL 4 eB 1 false (rowC l (leadR l n0) k 0)]) [] [] [2, 3, 5, 6, 7, 8, 9, 15, 16, 24, 25, 26] (by kernel_rfl) ?_ ?_
          · refine al ?_ (al ?_ (trivial))
            · omega
            · omega
          refine tr_then (tr_seq ?_)
          refine tr_r (vc := []) (E' := [(2, none, .ref 0 []), (3, none, .ref 1 []), (5, none, .ref 3 []), (6, none, vint .i64 ((n0 : Nat) : Int)), (7, none, .own 4), (8, none, vint .i64 ((k : Nat) : Int)), (15, none, vint .i64 12), (16, none, vint .i64 ((n0 : Nat) : Int)), (24, none, .p ((eL (eL eI 1 0) 1 []) l.Next)), (25, none, vint .i64 ((l.Next.length : Nat) : Int)), (26, none, vint .i64 ((k : Nat) : Int)), (31, none, .p ((eL eI 1 0) (l.Next.getD k []))), (32, none, vint .i64 (((l.Next.getD k []).length : Nat) : Int)), (33, none, vint .i64 0)]) (H' := [.box (.p (eLang l)), .box (vint .i64 12), oL 29 (eL eB 1 false) 1 [] (leadsL l n0), .box (.own 2), oL 4 eB 1 false (rowC l (leadR l n0) k 0)]) [] [] [2, 3, 5, 6, 7, 8, 15, 16, 24, 25, 26, 31, 32, 33] (by kernel_rfl) ?_ ?_
          · exact trivial
          refine tr_then ?_
          refine tr_block ?_
          refine tr_loop (α := Nat) (fun z : Nat => (fun (c : Nat) => [(2, none, .ref 0 []), (3, none, .ref 1 []), (5, none, .ref 3 []), (6, none, vint .i64 ((n0 : Nat) : Int)), (7, none, .own 4), (8, none, vint .i64 ((k : Nat) : Int)), (15, none, vint .i64 12), (16, none, vint .i64 ((n0 : Nat) : Int)), (24, none, .p ((eL (eL eI 1 0) 1 []) l.Next)), (25, none, vint .i64 ((l.Next.length : Nat) : Int)), (26, none, vint .i64 ((k : Nat) : Int)), (31, none, .p ((eL eI 1 0) (l.Next.getD k []))), (32, none, vint .i64 (((l.Next.getD k []).length : Nat) : Int)), (33, none, vint .i64 ((c : Nat) : Int))]) z) (fun z : Nat => (fun (c : Nat) => [.box (.p (eLang l)), .box (vint .i64 12), oL 29 (eL eB 1 false) 1 [] (leadsL l n0), .box (.own 2), oL 4 eB 1 false (rowC l (leadR l n0) k c)]) z) (fun z : Nat => (fun (c : Nat) => (c ≤ (l.Next.getD k []).length)) z) (fun z : Nat => (fun (c : Nat) => (l.Next.getD k []).length - c) z) 0 ?_ ?_ ?_
          · show (0 ≤ (l.Next.getD k []).length)
            · omega
          · intro A_ W_ hS
            replace hS := sl_set (d := vint .i64 0) 33 (vint .i64 ((0 : Nat) : Int)) (by kernel_rfl) (eqD_int (by omega)) hS
            exact sl_weak (vc := [∀ i, i < (leadsL l n0).length → D.p ((eL eB 1 false) ((leadsL l n0).getD i [])) = .p ((eL eB 1 false) ((leadsL l n0).getD i [])), ∀ i, i < (rowC l (leadR l n0) k 0).length → D.p (eB ((rowC l (leadR l n0) k 0).getD i false)) = .p (eB ((rowC l (leadR l n0) k 0).getD i false))]) [0, 1, 2, 3, 4] [2, 3, 5, 6, 7, 8, 15, 16, 24, 25, 26, 31, 32, 33] (by kernel_rfl) (al (fun _ _ => rfl) (al (fun _ _ => rfl) trivial)) hS
          · intro z hz
            revert z; intro c hz
            have hz : (c ≤ (l.Next.getD k []).length) := hz
            have hi2_0 := hz
            have hrl := rowC_len (l := l) (prev := leadR l n0) (k := k) (c := c)
            have hw := (hrow (by omega)).1
            have hr2 := (hrow (by omega)).2 c
            have hcd : l.Next.length = l.Accept.length := f3
            refine tr_seq ?_
            refine tr_r (vc := []) (E' := [(2, none, .ref 0 []), (3, none, .ref 1 []), (5, none, .ref 3 []), (6, none, vint .i64 ((n0 : Nat) : Int)), (7, none, .own 4), (8, none, vint .i64 ((k : Nat) : Int)), (15, none, vint .i64 12), (16, none, vint .i64 ((n0 : Nat) : Int)), (24, none, .p ((eL (eL eI 1 0) 1 []) l.Next)), (25, none, vint .i64 ((l.Next.length : Nat) : Int)), (26, none, vint .i64 ((k : Nat) : Int)), (31, none, .p ((eL eI 1 0) (l.Next.getD k []))), (32, none, vint .i64 (((l.Next.getD k []).length : Nat) : Int)), (33, none, vint .i64 ((c : Nat) : Int)), (34, none, vbool (decide (((c : Nat) : Int) < (((l.Next.getD k []).length : Nat) : Int))))]) (H' := [.box (.p (eLang l)), .box (vint .i64 12), oL 29 (eL eB 1 false) 1 [] (leadsL l n0), .box (.own 2), oL 4 eB 1 false (rowC l (leadR l n0) k c)]) [] [] [2, 3, 5, 6, 7, 8, 15, 16, 24, 25, 26, 31, 32, 33, 34] (by kernel_rfl) ?_ ?_
            · exact trivial
            refine tr_then (tr_seq ?_)
            refine tr_condP (decide (((c : Nat) : Int) < (((l.Next.getD k []).length : Nat) : Int))) (((c : Nat) : Int) < (((l.Next.getD k []).length : Nat) : Int)) (by simp) (by kernel_rfl) (fun hc3 => ?_) (fun hc3 => ?_)
            · skip
              refine tr_skip ?_
              refine tr_then (tr_seq ?_)
              refine tr_block ?_
              refine tr_seq ?_
              refine tr_r (vc := [(0 : Int) ≤ ((c : Nat) : Int), ((c : Nat) : Int) < ((l.Next.getD k []).length : Int)]) (E' := [(2, none, .ref 0 []), (3, none, .ref 1 []), (5, none, .ref 3 []), (6, none, vint .i64 ((n0 : Nat) : Int)), (7, none, .own 4), (8, none, vint .i64 ((k : Nat) : Int)), (11, none, vint .i64 ((l.Next.getD k []).getD c 0)), (15, none, vint .i64 12), (16, none, vint .i64 ((n0 : Nat) : Int)), (24, none, .p ((eL (eL eI 1 0) 1 []) l.Next)), (25, none, vint .i64 ((l.Next.length : Nat) : Int)), (26, none, vint .i64 ((k : Nat) : Int)), (31, none, .p ((eL eI 1 0) (l.Next.getD k []))), (32, none, vint .i64 (((l.Next.getD k []).length : Nat) : Int)), (33, none, vint .i64 ((c : Nat) : Int))]) (H' := [.box (.p (eLang l)), .box (vint .i64 12), oL 29 (eL eB 1 false) 1 [] (leadsL l n0), .box (.own 2), oL 4 eB 1 false (rowC l (leadR l n0) k c)]) [] [] [2, 3, 5, 6, 7, 8, 11, 15, 16, 24, 25, 26, 31, 32, 33] (by kernel_rfl) ?_ ?_
              · refine al ?_ (al ?_ (trivial))
                · omega
                · omega
              refine tr_then ?_
              refine tr_r (vc := [(0 : Int) ≤ ((k : Nat) : Int), ((k : Nat) : Int) < ((rowC l (leadR l n0) k c).length : Int), k < (rowC l (leadR l n0) k c).length, (!((rowC l (leadR l n0) k c).getD k false)) = true → (!((rowC l (leadR l n0) k c).getD k false)) = true, (!((rowC l (leadR l n0) k c).getD k false)) = true → (!((rowC l (leadR l n0) k c).getD k false)) = true, ((!((rowC l (leadR l n0) k c).getD k false)) && (decide (0 ≤ ((l.Next.getD k []).getD c 0)))) = true → ((!((rowC l (leadR l n0) k c).getD k false)) && (decide (0 ≤ ((l.Next.getD k []).getD c 0)))) = true, ((!((rowC l (leadR l n0) k c).getD k false)) && (decide (0 ≤ ((l.Next.getD k []).getD c 0)))) = true → ((!((rowC l (leadR l n0) k c).getD k false)) && (decide (0 ≤ ((l.Next.getD k []).getD c 0)))) = true, ((!((rowC l (leadR l n0) k c).getD k false)) && (decide (0 ≤ ((l.Next.getD k []).getD c 0)))) = true → ((0 : Int) ≤ ((n0 : Nat) : Int)), ((!((rowC l (leadR l n0) k c).getD k false)) && (decide (0 ≤ ((l.Next.getD k []).getD c 0)))) = true → (((n0 : Nat) : Int) < ((leadsL l n0).length : Int)), ((!((rowC l (leadR l n0) k c).getD k false)) && (decide (0 ≤ ((l.Next.getD k []).getD c 0)))) = true → ((!((rowC l (leadR l n0) k c).getD k false)) && (decide (0 ≤ ((l.Next.getD k []).getD c 0)))) = true, ((!((rowC l (leadR l n0) k c).getD k false)) && (decide (0 ≤ ((l.Next.getD k []).getD c 0)))) = true → (n0 < (leadsL l n0).length), ((!((rowC l (leadR l n0) k c).getD k false)) && (decide (0 ≤ ((l.Next.getD k []).getD c 0)))) = true → ((!((rowC l (leadR l n0) k c).getD k false)) && (decide (0 ≤ ((l.Next.getD k []).getD c 0)))) = true, ((!((rowC l (leadR l n0) k c).getD k false)) && (decide (0 ≤ ((l.Next.getD k []).getD c 0)))) = true → ((!((rowC l (leadR l n0) k c).getD k false)) && (decide (0 ≤ ((l.Next.getD k []).getD c 0)))) = true, ((!((rowC l (leadR l n0) k c).getD k false)) && (decide (0 ≤ ((l.Next.getD k []).getD c 0)))) = true → ((0 : Int) ≤ ((l.Next.getD k []).getD c 0)), ((!((rowC l (leadR l n0) k c).getD k false)) && (decide (0 ≤ ((l.Next.getD k []).getD c 0)))) = true → (((l.Next.getD k []).getD c 0) < (((leadsL l n0).getD n0 []).length : Int)), ((!((rowC l (leadR l n0) k c).getD k false)) && (decide (0 ≤ ((l.Next.getD k []).getD c 0)))) = true → ((!((rowC l (leadR l n0) k c).getD k false)) && (decide (0 ≤ ((l.Next.getD k []).getD c 0)))) = true, (!((rowC l (leadR l n0) k c).getD k false)) = true → ((!((rowC l (leadR l n0) k c).getD k false)) = true → (!((rowC l (leadR l n0) k c).getD k false)) = true), ((!((rowC l (leadR l n0) k c).getD k false)) && (decide (0 ≤ ((l.Next.getD k []).getD c 0)))) = true → ((!((rowC l (leadR l n0) k c).getD k false)) && (decide (0 ≤ ((l.Next.getD k []).getD c 0)))) = true, (!((rowC l (leadR l n0) k c).getD k false)) = true → (!((rowC l (leadR l n0) k c).getD k false)) = true, (0 : Int) ≤ ((k : Nat) : Int), ((k : Nat) : Int) < ((rowC l (leadR l n0) k c).length : Int), k < (rowC l (leadR l n0) k c).length]) (E' := [(2, none, .ref 0 []), (3, none, .ref 1 []), (5, none, .ref 3 []), (6, none, vint .i64 ((n0 : Nat) : Int)), (7, none, .own 4), (8, none, vint .i64 ((k : Nat) : Int)), (15, none, vint .i64 12), (16, none, vint .i64 ((n0 : Nat) : Int)), (24, none, .p ((eL (eL eI 1 0) 1 []) l.Next)), (25, none, vint .i64 ((l.Next.length : Nat) : Int)), (26, none, vint .i64 ((k : Nat) : Int)), (31, none, .p ((eL eI 1 0) (l.Next.getD k []))), (32, none, vint .i64 (((l.Next.getD k []).length : Nat) : Int)), (33, none, vint .i64 ((c : Nat) : Int))]) (H' := [.box (.p (eLang l)), .box (vint .i64 12), oL 29 (eL eB 1 false) 1 [] (leadsL l n0), .box (.own 2), .arr 4 1 ((rowC l (leadR l n0) k c).length) (upd (fun i => .p (eB ((rowC l (leadR l n0) k c).getD i false))) k (vbool (((rowC l (leadR l n0) k c).getD k false) || ((decide (0 ≤ ((l.Next.getD k []).getD c 0))) && (((leadsL l n0).getD n0 []).getD (((l.Next.getD k []).getD c 0).toNat) false)))))]) [] [] [2, 3, 5, 6, 7, 8, 15, 16, 24, 25, 26, 31, 32, 33] (by kernel_rfl) ?_ ?_
              · refine al ?_ (al ?_ (al ?_ (al ?_ (al ?_ (al ?_ (al ?_ (al ?_ (al ?_ (al ?_ (al ?_ (al ?_ (al ?_ (al ?_ (al ?_ (al ?_ (al ?_ (al ?_ (al ?_ (al ?_ (al ?_ (al ?_ (trivial))))))))))))))))))))))
                · omega
                · omega
                · omega
                · exact id
                · exact id
                · exact id
                · exact id
                · omega
                · omega
                · exact id
                · omega
                · exact id
                · exact id
                · (simp; done)
                · grind
                · exact id
                · intro _; exact id
                · exact id
                · exact id
                · omega
                · omega
                · omega
              refine nm_pre (E' := [(2, none, .ref 0 []), (3, none, .ref 1 []), (5, none, .ref 3 []), (6, none, vint .i64 ((n0 : Nat) : Int)), (7, none, .own 4), (8, none, vint .i64 ((k : Nat) : Int)), (15, none, vint .i64 12), (16, none, vint .i64 ((n0 : Nat) : Int)), (24, none, .p ((eL (eL eI 1 0) 1 []) l.Next)), (25, none, vint .i64 ((l.Next.length : Nat) : Int)), (26, none, vint .i64 ((k : Nat) : Int)), (31, none, .p ((eL eI 1 0) (l.Next.getD k []))), (32, none, vint .i64 (((l.Next.getD k []).length : Nat) : Int)), (33, none, vint .i64 ((c : Nat) : Int))]) (H' := [.box (.p (eLang l)), .box (vint .i64 12), oL 29 (eL eB 1 false) 1 [] (leadsL l n0), .box (.own 2), oL 4 eB 1 false ((rowC l (leadR l n0) k c).set k (((rowC l (leadR l n0) k c).getD k false) || ((decide (0 ≤ ((l.Next.getD k []).getD c 0))) && (((leadsL l n0).getD n0 []).getD (((l.Next.getD k []).getD c 0).toNat) false))))]) (fun A_ W_ hS => sl_arr (n := ((rowC l (leadR l n0) k c).length)) (n' := ((rowC l (leadR l n0) k c).set k (((rowC l (leadR l n0) k c).getD k false) || ((decide (0 ≤ ((l.Next.getD k []).getD c 0))) && (((leadsL l n0).getD n0 []).getD (((l.Next.getD k []).getD c 0).toNat) false)))).length) (f := upd (fun i => .p (eB ((rowC l (leadR l n0) k c).getD i false))) k (vbool (((rowC l (leadR l n0) k c).getD k false) || ((decide (0 ≤ ((l.Next.getD k []).getD c 0))) && (((leadsL l n0).getD n0 []).getD (((l.Next.getD k []).getD c 0).toNat) false))))) 4 (fun i => .p (eB (((rowC l (leadR l n0) k c).set k (((rowC l (leadR l n0) k c).getD k false) || ((decide (0 ≤ ((l.Next.getD k []).getD c 0))) && (((leadsL l n0).getD n0 []).getD (((l.Next.getD k []).getD c 0).toNat) false)))).getD i false))) (by kernel_rfl) (by simp) (by exact setN) hS) ?_
              refine in_n ?_
              refine tr_then ?_
              refine tr_r (vc := [(IntKind.wrap .i64 (((c : Nat) : Int) + 1)) = (((c + 1) : Nat) : Int)]) (E' := [(2, none, .ref 0 []), (3, none, .ref 1 []), (5, none, .ref 3 []), (6, none, vint .i64 ((n0 : Nat) : Int)), (7, none, .own 4), (8, none, vint .i64 ((k : Nat) : Int)), (15, none, vint .i64 12), (16, none, vint .i64 ((n0 : Nat) : Int)), (24, none, .p ((eL (eL eI 1 0) 1 []) l.Next)), (25, none, vint .i64 ((l.Next.length : Nat) : Int)), (26, none, vint .i64 ((k : Nat) : Int)), (31, none, .p ((eL eI 1 0) (l.Next.getD k []))), (32, none, vint .i64 (((l.Next.getD k []).length : Nat) : Int)), (33, none, vint .i64 (((c + 1) : Nat) : Int))]) (H' := [.box (.p (eLang l)), .box (vint .i64 12), oL 29 (eL eB 1 false) 1 [] (leadsL l n0), .box (.own 2), oL 4 eB 1 false ((rowC l (leadR l n0) k c).set k (((rowC l (leadR l n0) k c).getD k false) || ((decide (0 ≤ ((l.Next.getD k []).getD c 0))) && (((leadsL l n0).getD n0 []).getD (((l.Next.getD k []).getD c 0).toNat) false))))]) [(0, vint .i64 (((c + 1) : Nat) : Int))] [] [2, 3, 5, 6, 7, 8, 15, 16, 24, 25, 26, 31, 32, 33] (by kernel_rfl) ?_ ?_
              · refine al ?_ (trivial)
                · exact wr64 (by omega) (by omega) (by omega)
              refine lp_end (c + 1) ?_ ?_ ?_
              · show ((c + 1) ≤ (l.Next.getD k []).length)
                · omega
              · show (l.Next.getD k []).length - (c + 1) < (l.Next.getD k []).length - c
                omega
              · intro A_ W_ hS
                replace hS := sl_arr (e := 4) (sz := 1) (n := ((rowC l (leadR l n0) k c).set k (((rowC l (leadR l n0) k c).getD k false) || ((decide (0 ≤ ((l.Next.getD k []).getD c 0))) && (((leadsL l n0).getD n0 []).getD (((l.Next.getD k []).getD c 0).toNat) false)))).length) (n' := (rowC l (leadR l n0) k (c + 1)).length) (f := (fun i => .p (eB (((rowC l (leadR l n0) k c).set k (((rowC l (leadR l n0) k c).getD k false) || ((decide (0 ≤ ((l.Next.getD k []).getD c 0))) && (((leadsL l n0).getD n0 []).getD (((l.Next.getD k []).getD c 0).toNat) false)))).getD i false)))) 4 (fun i => .p (eB ((rowC l (leadR l n0) k (c + 1)).getD i false))) (by kernel_rfl) (by rw [rowC_get (by omega), hlg, rowC_set (by omega)]) (by intro j hj; rw [rowC_get (by omega), hlg, rowC_set (by omega)]) hS
                exact sl_weak (vc := [∀ i, i < (leadsL l n0).length → D.p ((eL eB 1 false) ((leadsL l n0).getD i [])) = .p ((eL eB 1 false) ((leadsL l n0).getD i [])), ∀ i, i < (rowC l (leadR l n0) k (c + 1)).length → D.p (eB ((rowC l (leadR l n0) k (c + 1)).getD i false)) = .p (eB ((rowC l (leadR l n0) k (c + 1)).getD i false))]) [0, 1, 2, 3, 4] [2, 3, 5, 6, 7, 8, 15, 16, 24, 25, 26, 31, 32, 33] (by kernel_rfl) (al (fun _ _ => rfl) (al (fun _ _ => rfl) trivial)) hS
            · skip
              refine tr_exit ?_
              refine th_e ?_
              refine th_e ?_
              refine in_hit ?_
              refine in_n ?_
              refine tr_then ?_
              refine tr_r (vc := [(IntKind.wrap .i64 (((k : Nat) : Int) + 1)) = (((k + 1) : Nat) : Int)]) (E' := [(2, none, .ref 0 []), (3, none, .ref 1 []), (5, none, .ref 3 []), (6, none, vint .i64 ((n0 : Nat) : Int)), (7, none, .own 4), (15, none, vint .i64 12), (16, none, vint .i64 ((n0 : Nat) : Int)), (24, none, .p ((eL (eL eI 1 0) 1 []) l.Next)), (25, none, vint .i64 ((l.Next.length : Nat) : Int)), (26, none, vint .i64 (((k + 1) : Nat) : Int))]) (H' := [.box (.p (eLang l)), .box (vint .i64 12), oL 29 (eL eB 1 false) 1 [] (leadsL l n0), .box (.own 2), oL 4 eB 1 false (rowC l (leadR l n0) k c)]) [(0, vint .i64 (((k + 1) : Nat) : Int))] [] [2, 3, 5, 6, 7, 15, 16, 24, 25, 26] (by kernel_rfl) ?_ ?_
              · refine al ?_ (trivial)
                · exact wr64 (by omega) (by omega) (by omega)
              refine lp_end (k + 1) ?_ ?_ ?_
              · show ((k + 1) ≤ l.Next.length)
                · omega
              · show l.Next.length - (k + 1) < l.Next.length - k
                omega
              · intro A_ W_ hS
                replace hS := sl_arr (e := 4) (sz := 1) (n := (rowC l (leadR l n0) k c).length) (n' := (rowC l (leadR l n0) (k + 1) 0).length) (f := (fun i => .p (eB ((rowC l (leadR l n0) k c).getD i false)))) 4 (fun i => .p (eB ((rowC l (leadR l n0) (k + 1) 0).getD i false))) (by kernel_rfl) (by rw [rowC_len, rowC_len]) (by intro j hj; rw [show c = (l.Next.getD k []).length by omega, rowC_next]) hS
                exact sl_weak (vc := [∀ i, i < (leadsL l n0).length → D.p ((eL eB 1 false) ((leadsL l n0).getD i [])) = .p ((eL eB 1 false) ((leadsL l n0).getD i [])), ∀ i, i < (rowC l (leadR l n0) (k + 1) 0).length → D.p (eB ((rowC l (leadR l n0) (k + 1) 0).getD i false)) = .p (eB ((rowC l (leadR l n0) (k + 1) 0).getD i false))]) [0, 1, 2, 3, 4] [2, 3, 5, 6, 7, 15, 16, 24, 25, 26] (by kernel_rfl) (al (fun _ _ => rfl) (al (fun _ _ => rfl) trivial)) hS
        · skip
          refine tr_exit ?_
          refine th_e ?_
          refine th_e ?_
          refine in_hit ?_
          refine tr_then ?_
          refine tr_pre (E' := [(2, none, .ref 0 []), (3, none, .ref 1 []), (5, none, .ref 3 []), (6, none, vint .i64 ((n0 : Nat) : Int)), (7, none, .p ((eL eB 1 false) (rowC l (leadR l n0) k 0))), (15, none, vint .i64 12), (16, none, vint .i64 ((n0 : Nat) : Int)), (24, none, .p ((eL (eL eI 1 0) 1 []) l.Next)), (25, none, vint .i64 ((l.Next.length : Nat) : Int)), (26, none, vint .i64 ((k : Nat) : Int)), (27, none, vbool (decide (((k : Nat) : Int) < ((l.Next.length : Nat) : Int))))]) (H' := [.box (.p (eLang l)), .box (vint .i64 12), oL 29 (eL eB 1 false) 1 [] (leadsL l n0), .box (.own 2), .dead]) (fun A_ W_ hS => sl_freeze (vc := [∀ j, j < (rowC l (leadR l n0) k 0).length → D.p (eB ((rowC l (leadR l n0) k 0).getD j false)) = .p ((fun j => eB ((rowC l (leadR l n0) k 0).getD j false)) j), ∀ i, i < (leadsL l n0).length → D.p ((eL eB 1 false) ((leadsL l n0).getD i [])) = .p ((eL eB 1 false) ((leadsL l n0).getD i []))]) 4 (fun j => eB ((rowC l (leadR l n0) k 0).getD j false)) (by kernel_rfl) (al (fun _ _ => rfl) (al (fun _ _ => rfl) trivial)) hS) ?_
          refine tr_r (vc := [∀ j, j < 1 → ([(eL eB 1 false) (rowC l (leadR l n0) k 0)] : List PV).getD j default = (fun i => (eL eB 1 false) (([(rowC l (leadR l n0) k 0)]).getD i [])) j, (((leadsL l n0).length) + (([(rowC l (leadR l n0) k 0)]).length)) * 24 ≤ 140737488355328]) (E' := [(2, none, .ref 0 []), (3, none, .ref 1 []), (5, none, .ref 3 []), (15, none, vint .i64 12), (16, none, vint .i64 ((n0 : Nat) : Int))]) (H' := [.box (.p (eLang l)), .box (vint .i64 12), .dead, .box (.own 5), .dead, .arr 29 1 ((leadsL l n0).length + ([(rowC l (leadR l n0) k 0)]).length) (appF (fun i => .p ((eL eB 1 false) ((leadsL l n0).getD i []))) ((leadsL l n0).length) (fun j => .p ((eL eB 1 false) (([(rowC l (leadR l n0) k 0)]).getD j []))))]) [] [(2, .p ((eL (eL eB 1 false) 1 []) ([(rowC l (leadR l n0) k 0)])))] [2, 3, 5, 15, 16] (by kernel_rfl) ?_ ?_
          · refine al ?_ (al ?_ (trivial))
            · exact lit_pv (e := (eL eB 1 false)) (d := []) (l := [(rowC l (leadR l n0) k 0)])
            · (simp_all; omega)
          refine nm_pre (E' := [(2, none, .ref 0 []), (3, none, .ref 1 []), (5, none, .ref 3 []), (15, none, vint .i64 12), (16, none, vint .i64 ((n0 : Nat) : Int))]) (H' := [.box (.p (eLang l)), .box (vint .i64 12), .dead, .box (.own 5), .dead, oL 29 (eL eB 1 false) 1 [] ((leadsL l n0) ++ ([(rowC l (leadR l n0) k 0)]))]) (fun A_ W_ hS => sl_arr (n := ((leadsL l n0).length + ([(rowC l (leadR l n0) k 0)]).length)) (n' := ((leadsL l n0) ++ ([(rowC l (leadR l n0) k 0)])).length) (f := appF (fun i => .p ((eL eB 1 false) ((leadsL l n0).getD i []))) ((leadsL l n0).length) (fun j => .p ((eL eB 1 false) (([(rowC l (leadR l n0) k 0)]).getD j [])))) 5 (fun i => .p ((eL eB 1 false) (((leadsL l n0) ++ ([(rowC l (leadR l n0) k 0)])).getD i []))) (by kernel_rfl) (by simp) (by first | exact appN | exact nilN | exact app0 | exact nilV _) hS) ?_
          refine in_n ?_
          refine tr_then ?_
          refine tr_r (vc := [(IntKind.wrap .i64 (((n0 : Nat) : Int) + 1)) = (((n0 + 1) : Nat) : Int)]) (E' := [(2, none, .ref 0 []), (3, none, .ref 1 []), (5, none, .ref 3 []), (15, none, vint .i64 12), (16, none, vint .i64 (((n0 + 1) : Nat) : Int))]) (H' := [.box (.p (eLang l)), .box (vint .i64 12), .dead, .box (.own 5), .dead, oL 29 (eL eB 1 false) 1 [] ((leadsL l n0) ++ ([(rowC l (leadR l n0) k 0)]))]) [(0, vint .i64 (((n0 + 1) : Nat) : Int))] [] [2, 3, 5, 15, 16] (by kernel_rfl) ?_ ?_
          · refine al ?_ (trivial)
            · exact wr64 (by omega) (by omega) (by omega)
          refine lp_end (n0 + 1) ?_ ?_ ?_
          · show ((n0 + 1) ≤ 12)
            · omega
          · show 12 - (n0 + 1) < 12 - n0
            omega
          · intro A_ W_ hS
            replace hS := sl_arr (e := 29) (sz := 1) (n := ((leadsL l n0) ++ ([(rowC l (leadR l n0) k 0)])).length) (n' := (leadsL l (n0 + 1)).length) (f := (fun i => .p ((eL eB 1 false) (((leadsL l n0) ++ ([(rowC l (leadR l n0) k 0)])).getD i [])))) 5 (fun i => .p ((eL eB 1 false) ((leadsL l (n0 + 1)).getD i []))) (by kernel_rfl) (by rw [List.length_append, leadsL_len, leadsL_len]; rfl) (by intro j hj; rw [show k = l.Next.length by omega, ← leadsL_next]; rfl) hS
            exact sl_weak (vc := [∀ i, i < (leadsL l (n0 + 1)).length → D.p ((eL eB 1 false) ((leadsL l (n0 + 1)).getD i [])) = .p ((eL eB 1 false) ((leadsL l (n0 + 1)).getD i []))]) [0, 1, 5, 3] [2, 3, 5, 15, 16] (by kernel_rfl) (al (fun _ _ => rfl) trivial) hS
    · skip
      refine tr_exit ?_
      refine th_e ?_
      refine th_e ?_
      refine in_hit ?_
      refine tr_then (tr_seq ?_)
      refine tr_pre (E' := [(2, none, .ref 0 []), (3, none, .ref 1 []), (5, none, .ref 3 []), (15, none, vint .i64 12), (16, none, vint .i64 ((n0 : Nat) : Int)), (17, none, vbool (decide (((n0 : Nat) : Int) < 12)))]) (H' := [.box (.p (eLang l)), .box (vint .i64 12), .dead, .box (.p ((eL (eL eB 1 false) 1 []) (leadsL l n0)))]) (fun A_ W_ hS => sl_freeze (vc := [∀ j, j < (leadsL l n0).length → D.p ((eL eB 1 false) ((leadsL l n0).getD j [])) = .p ((fun j => (eL eB 1 false) ((leadsL l n0).getD j [])) j)]) 2 (fun j => (eL eB 1 false) ((leadsL l n0).getD j [])) (by kernel_rfl) (al (fun _ _ => rfl) trivial) hS) ?_
      refine tr_pre (E' := [(2, none, .ref 0 []), (3, none, .ref 1 []), (5, none, .p (.pel ((eL (eL eB 1 false) 1 []) (leadsL l n0)))), (15, none, vint .i64 12), (16, none, vint .i64 ((n0 : Nat) : Int)), (17, none, vbool (decide (((n0 : Nat) : Int) < 12)))]) (H' := [.box (.p (eLang l)), .box (vint .i64 12), .dead, .dead]) (fun A_ W_ hS => sl_freezeB (vc := []) 3 (by kernel_rfl) trivial hS) ?_
      refine tr_pre (E' := [(2, none, .p (.pel (eLang l))), (3, none, .ref 1 []), (5, none, .p (.pel ((eL (eL eB 1 false) 1 []) (leadsL l n0)))), (15, none, vint .i64 12), (16, none, vint .i64 ((n0 : Nat) : Int)), (17, none, vbool (decide (((n0 : Nat) : Int) < 12)))]) (H' := [.dead, .box (vint .i64 12), .dead, .dead]) (fun A_ W_ hS => sl_freezeB (vc := []) 0 (by kernel_rfl) trivial hS) ?_
      refine tr_pre (E' := [(2, none, .p (.pel (eLang l))), (3, none, .p (.pel (.v (.int .i64 12)))), (5, none, .p (.pel ((eL (eL eB 1 false) 1 []) (leadsL l n0)))), (15, none, vint .i64 12), (16, none, vint .i64 ((n0 : Nat) : Int)), (17, none, vbool (decide (((n0 : Nat) : Int) < 12)))]) (H' := [.dead, .dead, .dead, .dead]) (fun A_ W_ hS => sl_freezeB (vc := []) 1 (by kernel_rfl) trivial hS) ?_
      refine tr_r (vc := []) (E' := [(4, none, .fn 49 [.p (.pel ((eL (eL eB 1 false) 1 []) (leadsL l n0))), .p (.pel (eLang l)), .p (.pel (.v (.int .i64 12)))])]) (H' := [.dead, .dead, .dead, .dead]) [] [] [4] (by kernel_rfl) ?_ ?_
      · exact trivial
      refine tr_then ?_
      refine tr_pre (E' := [(4, none, .fn 49 [.p (.pel ((eL (eL eB 1 false) 1 []) (leadsL l n0))), .p (.pel (eLang l)), .p (.pel (.v (.int .i64 12)))])]) (H' := []) (fun A_ W_ hS => sl_weak (vc := []) [] [4] (by kernel_rfl) trivial hS) ?_
      refine tr_pre (E' := (4, none, .fn 49 [.p (.pel ((eL (eL eB 1 false) 1 []) (leadsL l 12))), .p (.pel (eLang l)), .p (.pel (.v (.int .i64 12)))]) :: [(4, none, .fn 49 [.p (.pel ((eL (eL eB 1 false) 1 []) (leadsL l n0))), .p (.pel (eLang l)), .p (.pel (.v (.int .i64 12)))])]) (H' := []) (fun A_ W_ hS => sl_set_imp (d := .fn 49 [.p (.pel ((eL (eL eB 1 false) 1 []) (leadsL l n0))), .p (.pel (eLang l)), .p (.pel (.v (.int .i64 12)))]) 4 (.fn 49 [.p (.pel ((eL (eL eB 1 false) 1 []) (leadsL l 12))), .p (.pel (eLang l)), .p (.pel (.v (.int .i64 12)))]) (by kernel_rfl) ?_ hS) ?_
      · refine imp_eq ?_
        rw [show n0 = 12 by omega]
      refine tr_pre (E' := [(4, none, .fn 49 [.p (.pel ((eL (eL eB 1 false) 1 []) (leadsL l 12))), .p (.pel (eLang l)), .p (.pel (.v (.int .i64 12)))])]) (H' := []) (fun A_ W_ hS => sl_proj (ts := [4]) (by kernel_rfl) hS) ?_
      exact tr_return' (vc := []) (ds := [.fn 49 [.p (.pel ((eL (eL eB 1 false) 1 []) (leadsL l 12))), .p (.pel (eLang l)), .p (.pel (.v (.int .i64 12)))]]) (by kernel_rfl) trivial (by kernel_rfl) (fun _ _ h => h)
end Go.Proofs.Ytjnjmnfacaakfaa
namespace Go.Eng
open Go.RowKit
structure QS (N : Nat) (F : PHeap) (E : Env) (G : World → Prop) (a : Act) (w : World) : Prop where
  e : SLE F noG E a
  n : a.tmps.size = N
  d : a.defers = []
  s : Sub F w
  g : G w
def TrQ (P : Program) (N : Nat) (F : PHeap) (c : Code) (E : Env) (G : World → Prop) (Q : Exit → Act → World → Prop) : Prop := ∀ a w, QS N F E G a w → c.wp P Q a w
/-- A predicate that the count of draws does not touch. -/
def Drawn (G : World → Prop) : Prop := ∀ w : World, G w → G { w with drawn := w.drawn + 1 }
section
variable {P : Program} {N : Nat} {F : PHeap} {E E' : Env} {G : World → Prop} {Q : Exit → Act → World → Prop} {a : Act} {w : World}
theorem qs_slh (h : Sub F w) : SLH ⟨P, w, F, [], N⟩ F noG [] w := slh_base h
theorem tq_seq {x y : Code} (h : TrQ P N F x E G (Exit.then (y.wp P Q) Q)) : TrQ P N F (.seq x y) E G Q := fun a w hs => wp_seq (h a w hs)
theorem tq_then {y : Code} (h : TrQ P N F y E G Q) : ∀ a w, QS N F E G a w → Exit.then (y.wp P Q) Q .normal a w := h
theorem tq_reg {l : List Oper} {id : Nat} {vc} (hs : List (Nat × D)) (ts : List Nat) (h : regQ P N l [] hs ts E = some (vc, E')) (hvc : all vc) (hk : ∀ a w, QS N F E' G a w → Q .normal a w) : TrQ P N F (.region id l.toArray false) E G Q := by
  intro a w hS
  unfold regQ at h
  split at h
  · rename_i vc1 E1 h1
    split at h
    · rename_i E2 h2
      simp only [Option.some.injEq, Prod.mk.injEq] at h
      obtain ⟨rfl, rfl⟩ := h
      refine wp_region_lit ?_
      exact runQ_plain (qs_slh (P := P) (N := N) hS.s) hS.e hS.n h1 hvc fun a' k1 k2 k3 => hk a' w ⟨sle_proj h2 k1, k2, k3.trans hS.d, hS.s, hS.g⟩
    · cases h
  · cases h
theorem tq_cond {t : Nat} {x y : Code} (b : Bool) (hb : E.get t = some (none, .p (.v (.bool b)))) (ht : b = true → TrQ P N F x E G Q) (hf : b = false → TrQ P N F y E G Q) : TrQ P N F (.cond (.tmp t) x y) E G Q := by
  intro a w hS
  cases b with
  | true => exact wp_cond_true (eval_cond hS.e hb) (ht rfl a w hS)
  | false => exact wp_cond_false (eval_cond hS.e hb) (hf rfl a w hS)
theorem tq_skip (h : ∀ a w, QS N F E G a w → Q .normal a w) : TrQ P N F .skip E G Q := fun a w hS => wp_skip (h a w hS)
theorem tq_exit {id : Nat} (h : ∀ a w, QS N F E G a w → Q (.exit id) a w) : TrQ P N F (.exit id) E G Q := fun a w hS => wp_exit (h a w hS)
theorem tq_ret (h : ∀ a w, QS N F E G a w → Q .ret a w) : TrQ P N F .ret E G Q := fun a w hS => wp_ret (h a w hS)
theorem tq_block {id : Nat} {c : Code} (h : TrQ P N F c E G (Exit.inBlock id Q)) : TrQ P N F (.block id c) E G Q := fun a w hS => wp_block (h a w hS)
theorem tq_loop {α : Type} {c : Code} (E1 : α → Env) (G1 : α → World → Prop) (inv : α → Prop) (μ : α → Nat) (x0 : α) (h0 : inv x0) (hE : ∀ a w, QS N F E G a w → QS N F (E1 x0) (G1 x0) a w)
    (round : ∀ x, inv x → TrQ P N F c (E1 x) (G1 x) (Exit.then (fun a w => ∃ y, inv y ∧ μ y < μ x ∧ QS N F (E1 y) (G1 y) a w) Q)) : TrQ P N F (.loop c) E G Q := by
  intro a w hS
  refine wp_loop_ghost (fun n a w => ∃ x, inv x ∧ μ x = n ∧ QS N F (E1 x) (G1 x) a w) (μ x0) ⟨x0, h0, rfl, hE a w hS⟩ ?_
  rintro n a w ⟨x, hx, rfl, hS⟩
  refine wp_mono (round x hx a w hS) fun e a' w' h => ?_
  cases e with
  | normal => obtain ⟨y, h1, h2, h3⟩ := h; exact ⟨μ y, h2, y, h1, rfl, h3⟩
  | _ => exact h
theorem tq_still {l : List Oper} {id : Nat} {vc} (n : Nat) (hs : List (Nat × D)) (hm : P.follows .mixedOrders = true) (hB : Region.lexTailB .any l.toArray n = true)
    (h : runQ P N l.toArray [] hs 0 (l.take n) E = some (vc, E')) (hvc : all vc) (hG : Drawn G) (hk : ∀ a w, QS N F E' G a w → wpList P l.toArray Q (l.drop n) a w) : TrQ P N F (.region id l.toArray true) E G Q := by
  intro a w hS
  refine wp_region_still_tail n hm hB ?_
  have hs' : Sub F { w with drawn := w.drawn + 1 } := hS.s
  exact runQ_still (qs_slh (P := P) (N := N) hs') hS.e hS.n h hvc fun a' k1 k2 k3 => hk a' _ ⟨k1, k2, k3.trans hS.d, hs', hG w hS.g⟩
/-- Said otherwise. -/
theorem qs_proj {ts : List Nat} (h : proj E ts = some E') (hS : QS N F E G a w) : QS N F E' G a w := ⟨sle_proj h hS.e, hS.n, hS.d, hS.s, hS.g⟩
theorem qs_set {d : D} (t : Nat) (d' : D) (ht : E.get t = some (none, d)) (h : eqD d d') (hS : QS N F E G a w) : QS N F ((t, none, d') :: E) G a w := by
  refine ⟨fun u g d0 hu => ?_, hS.n, hS.d, hS.s, hS.g⟩
  simp only [Env.get] at hu
  cases hb : Nat.beq t u with
  | true =>
    rw [hb] at hu
    simp only [cond_true, Option.some.injEq, Prod.mk.injEq] at hu
    obtain ⟨rfl, rfl⟩ := hu
    rw [← Nat.eq_of_beq_eq_true hb]
    obtain ⟨h1, h2⟩ := hS.e _ _ _ ht
    refine ⟨fun hg => ?_, h2⟩
    obtain ⟨v, k1, k2⟩ := h1 hg
    exact ⟨v, k1, eqD_rel h k2⟩
  | false => rw [hb] at hu; exact hS.e u g d0 hu
theorem qs_g {G' : World → Prop} (h : ∀ w, G w → G' w) (hS : QS N F E G a w) : QS N F E G' a w := ⟨hS.e, hS.n, hS.d, hS.s, h w hS.g⟩
theorem qs_slot {t : Nat} {d : D} (h : E.get t = some (none, d)) (hS : QS N F E G a w) : ∃ v, a.tmps[t]? = some v ∧ RelV F noG d v := (hS.e _ _ _ h).1 trivial
/-! ### Calls of function values -/
theorem run_closure {ρ : Operand → Value} {o : Oper} {x : Operand} {f : FuncId} {args : Array Operand} {ts : Array TypeId} {caps : Array Value} (ho : o.op = .call ⟨.value x, args, ts⟩) (hx : ρ x = .func (.func f) #[] caps) (hf : callable P f = true) (w : World) :
    (execOp ρ o).run P w = .ok (.enter f (args.map ρ ++ caps)) w := by
  have := run_callFunc hf (args.map ρ ++ caps) w
  simp [execOp, ho, resolve, Deferred.ofValue, hx, invoke, this]
theorem run_yield_op {ρ : Operand → Value} {o : Oper} {x : Operand} {l : Nat} {args : Array Operand} {ts : Array TypeId} (ho : o.op = .call ⟨.value x, args, ts⟩) (hx : ρ x = .func (.yield l) #[] #[]) {r : Next} {w w' : World}
    (h : (Instr.yield l (args.map ρ)).run P w = .ok r w') : (execOp ρ o).run P w = .ok r w' := by
  simp [execOp, ho, resolve, Deferred.ofValue, hx, invoke, h]
theorem wl_call {ops : Array Oper} {o : Oper} {rest : List Oper} {x : Operand} {f : FuncId} {args : Array Operand} {ts : Array TypeId} {t : Nat} {b : Bool} {K : Bool → World → Prop}
    (ho : o.op = .call ⟨.value x, args, ts⟩) (hd : o.dst = some t) (he : execCond ops E o = some (some b)) (hS : QS N F E G a w) (hf : callable P f = true)
    (hyes : b = true → ∃ caps, a.eval x = .func (.func f) #[] caps ∧ Calls P f (args.map a.eval ++ caps) w fun e w' => ∃ r, e = .returned (.bool r) ∧ K r w')
    (hk1 : b = true → ∀ r w', K r w' → wpList P ops Q rest (a.put (some t) (.bool r)) w') (hk0 : b = false → wpList P ops Q rest (a.put (some t) undef) w) : wpList P ops Q (o :: rest) a w := by
  have hw := wanted_iff hS.e he
  unfold wpList
  cases b with
  | true =>
    rw [if_pos (hw.2 rfl)]
    obtain ⟨caps, h1, h2⟩ := hyes rfl
    unfold Oper.wp
    rw [run_closure ho h1 hf w]
    refine .inl (h2.mono ?_)
    rintro e w' ⟨r, rfl, hK⟩
    rw [← hd] at hk1
    exact hk1 rfl r w' hK
  | false =>
    rw [if_neg (fun h => by have := hw.1 h; simp [on] at this), hd]
    exact hk0 rfl
theorem runQ_listIn {m : Nat} {ops : Array Oper} {hs : List (Nat × D)} {rest : List Oper} (hS : Sub F w) : ∀ {l : List Oper} {i : Nat} {E E' : Env} {a : Act} {vc}, SLE F noG E a → a.tmps.size = N → runQ P N ops [] hs i l E = some (vc, E') → all vc →
    (∀ a' : Act, SLE F noG E' a' → a'.tmps.size = N → a'.defers = a.defers → wpListIn Fence.wide m P ops Q rest a' w) → wpListIn Fence.wide m P ops Q (l ++ rest) a w
  | [], i, E, E', a, vc, hE, hN, h, _, hk => by
    simp only [runQ, Option.some.injEq, Prod.mk.injEq] at h
    obtain ⟨_, rfl⟩ := h
    exact hk a hE hN rfl
  | o :: l, i, E, E', a, vc, hE, hN, h, hvc, hk => by
    simp only [runQ] at h
    split at h
    · rename_i vc1 E1 h1
      split at h
      · rename_i vc2 E2 h2
        simp only [Option.some.injEq, Prod.mk.injEq] at h
        obtain ⟨rfl, rfl⟩ := h
        rw [all_append] at hvc
        obtain ⟨v, hv, hE1⟩ := stepQ_sound (qs_slh (P := P) (N := N) hS) hE hN h1 hvc.1
        have ih : wpListIn Fence.wide m P ops Q (l ++ rest) (a.put o.dst v) w := runQ_listIn hS hE1 (by rw [put_size, hN]) h2 hvc.2 (fun a' k1 k2 k3 => hk a' k1 k2 (by rw [k3, put_defers]))
        rw [List.cons_append]
        unfold wpListIn
        rcases hv with ⟨hw, hr⟩ | ⟨hw, rfl⟩
        · rw [if_pos hw]
          refine ⟨fun _ _ => trivial, ?_⟩
          rw [show Oper.semAt Fence.wide.round a.eval o = execOp a.eval o from rfl, hr w (Keep.refl w)]
          exact ih
        · rw [if_neg (by rw [hw]; simp)]
          exact ⟨fun _ _ => trivial, ih⟩
      · cases h
    · cases h
def noF : PHeap := fun _ => none
theorem sub_noF : Sub noF w := fun b c h => by cases h
theorem eval_v {t : Nat} {x : Value} (hE : SLE F noG E a) (h : E.get t = some (none, .p (.v x))) : a.eval (.tmp t) = x := by
  obtain ⟨v, h1, h2⟩ := (hE _ _ _ h).1 trivial
  rw [eval_tmp h1, v_val h2]
theorem eval_s {t : Nat} {l : List UInt8} (hE : SLE F noG E a) (h : E.get t = some (none, vstr l)) : a.eval (.tmp t) = .string ⟨l.toArray⟩ := by
  obtain ⟨v, h1, h2⟩ := (hE _ _ _ h).1 trivial
  rw [eval_tmp h1, asStr_val rfl h2]
theorem eval_vg {t : Nat} {x : Value} {b : Bool} (hb : b = true) (hE : SLE F noG E a) (h : E.get t = some (some b, .p (.v x))) : a.eval (.tmp t) = x := by
  obtain ⟨v, h1, h2⟩ := (hE _ _ _ h).1 hb
  rw [eval_tmp h1, v_val h2]
theorem eval_sg {t : Nat} {l : List UInt8} {b : Bool} (hb : b = true) (hE : SLE F noG E a) (h : E.get t = some (some b, vstr l)) : a.eval (.tmp t) = .string ⟨l.toArray⟩ := by
  obtain ⟨v, h1, h2⟩ := (hE _ _ _ h).1 hb
  rw [eval_tmp h1, asStr_val rfl h2]
/-- A call of the loop's body, by the iterator. -/
theorem tq_yield {l : List Oper} {id : Nat} {vc E1} {m ly : Nat} {o : Oper} {x : Operand} {args : Array Operand} {ts : Array TypeId} {t : Nat} {s : List UInt8} {Gt Gf : World → Prop} {E2 : Bool → Env} (n : Nat) (us : List Nat)
    (h1 : (runQ P N l.toArray [] [] 0 (l.take n) E).bind (fun q => (proj q.2 us).map fun e => (q.1, e)) = some (vc, E1)) (hvc : all vc) (hn : l[n]? = some o) (ho : o.op = .call ⟨.value x, args, ts⟩) (hgd : o.guard = none) (hd : o.dst = some t) (hdk : dstOk N (some t) = true)
    (h2 : ∀ b, runQ P N l.toArray [] [] (n + 1) (l.drop (n + 1)) [(t, none, vbool b)] = some ([], E2 b))
    (hx : ∀ a : Act, SLE F noG E1 a → a.eval x = .func (.yield ly) #[] #[] ∧ args.map a.eval = #[.string ⟨s.toArray⟩])
    (hY : ∀ w, G w → YieldAt Fence.wide m P ly #[.string ⟨s.toArray⟩] w fun e w' => (e = .returned (.bool true) ∧ Gt w') ∨ (e = .returned (.bool false) ∧ Gf w'))
    (hk : ∀ b a w, QS N noF (E2 b) (fun w => (b = true → Gt w) ∧ (b = false → Gf w)) a w → Q .normal a w) : TrQ P N F (.region id l.toArray false) E G Q := by
  intro a w hS
  cases hr : runQ P N l.toArray [] [] 0 (l.take n) E with
  | none => rw [hr] at h1; cases h1
  | some q =>
    obtain ⟨vc1, E0⟩ := q
    rw [hr] at h1
    simp only [Option.bind_some, Option.map_eq_some_iff, Prod.mk.injEq] at h1
    obtain ⟨e, he, rfl, rfl⟩ := h1
    refine (wpIn_wide (n := m + 1)).1 (wpIn_region_lit ?_)
    have hdr : l.drop n = o :: l.drop (n + 1) := by
      obtain ⟨hlt, hget⟩ := List.getElem?_eq_some_iff.1 hn
      rw [List.drop_eq_getElem_cons hlt, hget]
    have key : wpListIn Fence.wide (m + 1) P l.toArray Q (l.take n ++ o :: l.drop (n + 1)) a w := by
      refine runQ_listIn hS.s hS.e hS.n hr hvc fun a' k1 k2 k3 => ?_
      obtain ⟨hx1, hx2⟩ := hx a' (sle_proj he k1)
      have hw : Region.wanted o (yielded l.toArray a'.tmps) = true := by simp [Region.wanted, hgd]
      unfold wpListIn
      rw [if_pos hw]
      refine ⟨fun _ _ => trivial, ?_⟩
      obtain ⟨fn, tmps, assign, body, hy, hR⟩ := hY w hS.g
      rw [show Oper.semAt Fence.wide.round a'.eval o = execOp a'.eval o from rfl, run_yield_op ho hx1 (by rw [hx2]; exact hy)]
      refine ⟨(fun h => by cases h), hR.mono ?_⟩
      have fin : ∀ (b : Bool) w', (b = true → Gt w') → (b = false → Gf w') → wpListIn Fence.wide (m + 1) P l.toArray Q (l.drop (n + 1)) (a'.put o.dst (.bool b)) w' := by
        intro b w' g1 g2
        rw [hd]
        have := runQ_listIn (P := P) (F := noF) (rest := []) (Q := Q) (m := m + 1) (w := w') (a := a'.put (some t) (.bool b)) sub_noF (fun u g d hu => by
          simp only [Env.get] at hu
          cases hb : Nat.beq t u with
          | true =>
            rw [hb] at hu
            simp only [cond_true, Option.some.injEq, Prod.mk.injEq] at hu
            obtain ⟨rfl, rfl⟩ := hu
            rw [← Nat.eq_of_beq_eq_true hb]
            exact ⟨fun _ => ⟨.bool b, put_get k2 hdk rfl, relV_bool⟩, fun hn => absurd trivial hn⟩
          | false => rw [hb] at hu; cases hu) (by rw [put_size]; exact k2) (h2 b) trivial (fun a'' q1 q2 q3 => hk b a'' w' ⟨q1, q2, (q3.trans put_defers).trans (k3.trans hS.d), sub_noF, g1, g2⟩)
        rw [List.append_nil] at this
        exact this
      rintro e w' (⟨rfl, hg⟩ | ⟨rfl, hg⟩)
      · exact fin true w' (fun _ => hg) (fun h => by cases h)
      · exact fin false w' (fun h => by cases h) (fun _ => hg)
    rw [← hdr, List.take_append_drop] at key
    exact key
def projG (E : Env) : List Nat → Option Env
  | [] => some []
  | t :: l => match E.get t, projG E l with
    | some (g, d), some r => some ((t, g, d) :: r)
    | _, _ => none
theorem projG_get : ∀ {l : List Nat} {E E' : Env} {t : Nat} {g d}, projG E l = some E' → E'.get t = some (g, d) → E.get t = some (g, d)
  | [], E, E', t, g, d, h, hg => by
    simp only [projG, Option.some.injEq] at h
    subst h
    cases hg
  | u :: l, E, E', t, g, d, h, hg => by
    simp only [projG] at h
    split at h
    · rename_i g0 d0 r h1 h2
      simp only [Option.some.injEq] at h
      subst h
      simp only [Env.get] at hg
      cases hb : Nat.beq u t with
      | true =>
        rw [hb] at hg
        simp only [cond_true, Option.some.injEq, Prod.mk.injEq] at hg
        obtain ⟨rfl, rfl⟩ := hg
        rw [← Nat.eq_of_beq_eq_true hb]
        exact h1
      | false =>
        rw [hb] at hg
        exact projG_get h2 (by simpa using hg)
    · cases h
theorem sle_projG {l : List Nat} (h : projG E l = some E') (hE : SLE F noG E a) : SLE F noG E' a := fun t g d hg => hE t g d (projG_get h hg)
/-- A closure that is called under a condition, by an iterator that calls the loop's body: its result says whether to go on. -/
theorem tq_callG {l : List Oper} {id : Nat} {vc va vb E1 EA EB} {o : Oper} {x : Operand} {f : FuncId} {args : Array Operand} {ts : Array TypeId} {t tg : Nat} {b : Bool} {Gt Gf : World → Prop} (n : Nat) (hs : List (Nat × D)) (us ua : List Nat)
    (hm : P.follows .mixedOrders = true) (hB : Region.lexTailB .any l.toArray n = true) (h1 : (runQ P N l.toArray [] hs 0 (l.take n) E).bind (fun q => (projG q.2 us).map fun e => (q.1, e)) = some (vc, E1)) (hvc : all vc)
    (hn : l[n]? = some o) (ho : o.op = .call ⟨.value x, args, ts⟩) (hd : o.dst = some t) (hdk : dstOk N (some t) = true) (he : execCond l.toArray E1 o = some (some b)) (hf : callable P f = true) (hG : Drawn G) (htg : E1.get tg = some (none, vbool b))
    (hA : (runQ P N l.toArray [] [] (n + 1) (l.drop (n + 1)) ((t, some b, vbool true) :: E1)).bind (fun q => (proj q.2 ua).map fun e => (q.1, e)) = some (va, EA)) (hva : all va)
    (hB' : runQ P N l.toArray [] [] (n + 1) (l.drop (n + 1)) [(t, some b, vbool false), (tg, none, vbool b)] = some (vb, EB)) (hvb : all vb)
    (hcall : b = true → ∀ a w, QS N F E1 G a w → ∃ caps, a.eval x = .func (.func f) #[] caps ∧ Calls P f (args.map a.eval ++ caps) w fun e w' => ∃ r, e = .returned (.bool r) ∧ (r = true → Gt w' ∧ Sub F w') ∧ (r = false → Gf w'))
    (hkA : ∀ a w, QS N F EA (fun w => (b = false → G w) ∧ (b = true → Gt w)) a w → Q .normal a w) (hkB : b = true → ∀ a w, QS N noF EB Gf a w → Q .normal a w) : TrQ P N F (.region id l.toArray true) E G Q := by
  cases hr : runQ P N l.toArray [] hs 0 (l.take n) E with
  | none => rw [hr] at h1; cases h1
  | some q =>
  obtain ⟨vc1, E0⟩ := q
  rw [hr] at h1
  simp only [Option.bind_some, Option.map_eq_some_iff, Prod.mk.injEq] at h1
  obtain ⟨e, he0, rfl, rfl⟩ := h1
  refine tq_still n hs hm hB hr hvc hG fun a w hS0 => ?_
  have hS : QS N F e G a w := ⟨sle_projG he0 hS0.e, hS0.n, hS0.d, hS0.s, hS0.g⟩
  have hdr : l.drop n = o :: l.drop (n + 1) := by
    obtain ⟨hlt, hget⟩ := List.getElem?_eq_some_iff.1 hn
    rw [List.drop_eq_getElem_cons hlt, hget]
  rw [hdr]
  cases hra : runQ P N l.toArray [] [] (n + 1) (l.drop (n + 1)) ((t, some b, vbool true) :: e) with
  | none => rw [hra] at hA; cases hA
  | some qa =>
  obtain ⟨va1, EA0⟩ := qa
  rw [hra] at hA
  simp only [Option.bind_some, Option.map_eq_some_iff, Prod.mk.injEq] at hA
  obtain ⟨ea, hea, rfl, rfl⟩ := hA
  have goA : ∀ (v : Value) w', Sub F w' → (b = false → G w') → (b = true → Gt w') → (b = true → v = .bool true) → (b = false → v = undef) → wpList P l.toArray Q (l.drop (n + 1)) (a.put (some t) v) w' := by
    intro v w' hs g1 g2 v1 v2
    have hE2 : SLE F noG ((t, some b, vbool true) :: e) (a.put (some t) v) := sle_put (dst := some t) hS.e hS.n hdk (fun h => by rw [v1 h]; exact relV_bool) (fun h => v2 (by simpa [on] using h))
    exact runQ_plain (qs_slh (P := P) (N := N) hs) hE2 (by rw [put_size]; exact hS.n) hra hva fun a' k1 k2 k3 => hkA a' w' ⟨sle_proj hea k1, k2, (k3.trans put_defers).trans hS.d, hs, g1, g2⟩
  refine wl_call (K := fun r w' => (r = true → Gt w' ∧ Sub F w') ∧ (r = false → Gf w')) ho hd he hS hf (fun hb => hcall hb a w hS) (fun hb r w' hK => ?_) (fun hb => goA undef w hS.s (fun _ => hS.g) (fun h => by rw [hb] at h; cases h) (fun h => by rw [hb] at h; cases h) (fun _ => rfl))
  cases r with
  | true => exact goA (.bool true) w' (hK.1 rfl).2 (fun h => by rw [hb] at h; cases h) (fun _ => (hK.1 rfl).1) (fun _ => rfl) (fun h => by rw [hb] at h; cases h)
  | false =>
    have hE2 : SLE noF noG [(t, some b, vbool false), (tg, none, vbool b)] (a.put (some t) (.bool false)) := by
      have h0 : SLE noF noG [(tg, none, vbool b)] a := by
        intro u g d hu
        simp only [Env.get] at hu
        cases hbq : Nat.beq tg u with
        | true =>
          rw [hbq] at hu
          simp only [cond_true, Option.some.injEq, Prod.mk.injEq] at hu
          obtain ⟨rfl, rfl⟩ := hu
          rw [← Nat.eq_of_beq_eq_true hbq]
          obtain ⟨v, q1, q2⟩ := (hS.e _ _ _ htg).1 trivial
          rw [asBool_val rfl q2] at q1
          exact ⟨fun _ => ⟨_, q1, relV_bool⟩, fun hn => absurd trivial hn⟩
        | false => rw [hbq] at hu; cases hu
      exact sle_put (dst := some t) h0 hS.n hdk (fun _ => relV_bool) (fun h => absurd hb (by simpa [on] using h))
    exact runQ_plain (qs_slh (P := P) (N := N) sub_noF) hE2 (by rw [put_size]; exact hS.n) hB' hvb fun a' k1 k2 k3 => hkB hb a' w' ⟨k1, k2, (k3.trans put_defers).trans hS.d, sub_noF, hK.2 rfl⟩
theorem nq_pre {N : Nat} {F : PHeap} {E E' : Env} {G G' : World → Prop} {Q : Exit → Act → World → Prop} (h : ∀ a w, QS N F E G a w → QS N F E' G' a w) (k : ∀ a w, QS N F E' G' a w → Q .normal a w) : ∀ a w, QS N F E G a w → Q .normal a w := fun a w hs => k a w (h a w hs)
end
end Go.Eng
namespace Go.Eng
open Go.RowKit
section
variable {P : Program} {N : Nat} {F : PHeap} {E E' : Env} {G G' : World → Prop} {Q : Exit → Act → World → Prop} {a : Act} {w : World}
theorem tq_condP {t : Nat} {x y : Code} (b : Bool) (p : Prop) (hp : b = true ↔ p) (hb : E.get t = some (none, .p (.v (.bool b)))) (ht : p → TrQ P N F x E G Q) (hf : ¬ p → TrQ P N F y E G Q) : TrQ P N F (.cond (.tmp t) x y) E G Q :=
  tq_cond b hb (fun h => ht (hp.1 h)) (fun h => hf fun h' => by rw [hp.2 h'] at h; cases h)
theorem tqh_e {id : Nat} {K : Act → World → Prop} (h : ∀ a w, QS N F E G a w → Q (.exit id) a w) : ∀ a w, QS N F E G a w → Exit.then K Q (.exit id) a w := h
theorem qin_n {id : Nat} (h : ∀ a w, QS N F E G a w → Q .normal a w) : ∀ a w, QS N F E G a w → Exit.inBlock id Q .normal a w := h
theorem qin_hit {id : Nat} (h : ∀ a w, QS N F E G a w → Q .normal a w) : ∀ a w, QS N F E G a w → Exit.inBlock id Q (.exit id) a w := fun a w hs => inBlock_hit (h a w hs)
theorem qlp_end {α : Type} {E1 : α → Env} {G1 : α → World → Prop} {inv : α → Prop} {μ : α → Nat} {x : α} (y : α) (hi : inv y) (hm : μ y < μ x) (h : ∀ a w, QS N F E G a w → QS N F (E1 y) (G1 y) a w) :
    ∀ a w, QS N F E G a w → Exit.then (fun a w => ∃ y, inv y ∧ μ y < μ x ∧ QS N F (E1 y) (G1 y) a w) Q .normal a w := fun a w hS => ⟨y, hi, hm, h a w hS⟩
def RetQ (P : Program) (rs : Array ResultVar) (R : Ending → World → Prop) : Exit → Act → World → Prop := fun e a w => match e with
  | .ret => a.defers = [] ∧ ∃ v, (∀ fn : Func, fn.results = rs → (results fn a.tmps).run P w = .ok v w) ∧ R (.returned v) w
  | .normal => a.defers = [] ∧ ∃ v, (∀ fn : Func, fn.results = rs → (results fn a.tmps).run P w = .ok v w) ∧ R (.returned v) w
  | _ => False
theorem retq_of {rs : Array ResultVar} {R : Ending → World → Prop} {vc ds} (h : evRess P [] E rs.toList = some (vc, ds)) (hvc : all vc) (hS : QS N F E G a w) (hR : ∀ v, RelV F noG (one ds) v → G w → R (.returned v) w) :
    a.defers = [] ∧ ∃ v, (∀ fn : Func, fn.results = rs → (results fn a.tmps).run P w = .ok v w) ∧ R (.returned v) w := by
  obtain ⟨vs, h1, h2, h3⟩ := evRess_sound (C := ⟨P, w, F, [], N⟩) (qs_slh hS.s) hS.e h hvc
  refine ⟨hS.d, _, fun fn hfn => results_run (C := ⟨P, w, F, [], N⟩) (by rw [hfn]; exact h3), hR _ ?_ hS.g⟩
  by_cases h0 : vs.length = 1
  · rw [dif_pos h0]
    match vs, h0, ds, h1 with
    | [v], _, [d], _ => exact h2 0 d v rfl rfl
  · rw [dif_neg h0]
    have : one ds = .tup ds := by
      unfold one
      split
      · simp at h1; omega
      · rfl
    rw [this]
    exact .tup h1 h2
theorem tq_return {rs : Array ResultVar} {R : Ending → World → Prop} {vc ds} (h : evRess P [] E rs.toList = some (vc, ds)) (hvc : all vc) (hQ : ∀ a w, RetQ P rs R .ret a w → Q .ret a w) (hR : ∀ w v, RelV F noG (one ds) v → G w → R (.returned v) w) : TrQ P N F .ret E G Q :=
  tq_ret fun a w hS => hQ a w (retq_of h hvc hS (hR w))
theorem argE_sle {args : List PV} {vs : List Value} {γ : Gm} {n : Nat} (hlen : vs.length = args.length) (hrel : ∀ (i : Nat) p v, args[i]? = some p → vs[i]? = some v → RelV F γ (.p p) v) :
    SLE F γ (argE args 0) { tmps := vs.toArray ++ Array.replicate n undef, defers := [] } := by
  intro t g d ht
  obtain ⟨rfl, _, p, hp, rfl⟩ := argE_get ht
  rw [Nat.sub_zero] at hp
  have hlt : t < vs.length := by rw [hlen]; exact (List.getElem?_eq_some_iff.1 hp).1
  refine ⟨fun _ => ⟨vs[t], ?_, hrel t p _ hp (List.getElem?_eq_getElem hlt)⟩, fun hn => absurd trivial hn⟩
  rw [Array.getElem?_append_left (by simpa using hlt)]
  simp [hlt]
theorem calls_of_tq {f : FuncId} {fn : Func} {c : Code} {args : List PV} {vs : List Value} {R : Ending → World → Prop} (hf : P.funcs[f]? = some fn) (hb : fn.body = some c) (hn : Nat.ble args.length fn.ntmps = true)
    (hlen : vs.length = args.length) (hrel : ∀ (i : Nat) p v, args[i]? = some p → vs[i]? = some v → RelV F noG (.p p) v) (hs : Sub F w) (hg : G w)
    (h : TrQ P fn.ntmps F c (argE args 0) G (RetQ P fn.results R)) : Calls P f vs.toArray w R := by
  have hle := Nat.le_of_ble_eq_true hn
  refine calls_of_wp hf hb ?_
  refine wp_mono (h _ w ⟨argE_sle hlen hrel, by simp [hlen]; omega, rfl, hs, hg⟩) fun e a' w' hq => ?_
  cases e with
  | ret => obtain ⟨hD, v, h1, h2⟩ := hq; exact ⟨hD, v, h1 fn rfl, h2⟩
  | normal => obtain ⟨hD, v, h1, h2⟩ := hq; exact ⟨hD, v, h1 fn rfl, h2⟩
  | _ => exact hq.elim
/-- A closure that is called by an iterator. -/
theorem tq_callC {l : List Oper} {id : Nat} {vc E1 EA EB} {o : Oper} {x : Operand} {f : FuncId} {args : Array Operand} {ts : Array TypeId} {t : Nat} {Gt Gf : World → Prop} (n : Nat) (us ua : List Nat)
    (h1 : (runQ P N l.toArray [] [] 0 (l.take n) E).bind (fun q => (projG q.2 us).map fun e => (q.1, e)) = some (vc, E1)) (hvc : all vc)
    (hn : l[n]? = some o) (ho : o.op = .call ⟨.value x, args, ts⟩) (hgd : o.guard = none) (hd : o.dst = some t) (hdk : dstOk N (some t) = true) (hf : callable P f = true)
    (hA : (runQ P N l.toArray [] [] (n + 1) (l.drop (n + 1)) ((t, none, vbool true) :: E1)).bind (fun q => (proj q.2 ua).map fun e => (q.1, e)) = some ([], EA))
    (hB : runQ P N l.toArray [] [] (n + 1) (l.drop (n + 1)) [(t, none, vbool false)] = some ([], EB))
    (hcall : ∀ a w, QS N F E1 G a w → ∃ caps, a.eval x = .func (.func f) #[] caps ∧ Calls P f (args.map a.eval ++ caps) w fun e w' => ∃ r, e = .returned (.bool r) ∧ (r = true → Gt w' ∧ Sub F w') ∧ (r = false → Gf w'))
    (hkA : ∀ a w, QS N F EA Gt a w → Q .normal a w) (hkB : ∀ a w, QS N noF EB Gf a w → Q .normal a w) : TrQ P N F (.region id l.toArray false) E G Q := by
  intro a w hS
  cases hr : runQ P N l.toArray [] [] 0 (l.take n) E with
  | none => rw [hr] at h1; cases h1
  | some q =>
  obtain ⟨vc1, E0⟩ := q
  rw [hr] at h1
  simp only [Option.bind_some, Option.map_eq_some_iff, Prod.mk.injEq] at h1
  obtain ⟨e, he0, rfl, rfl⟩ := h1
  cases hra : runQ P N l.toArray [] [] (n + 1) (l.drop (n + 1)) ((t, none, vbool true) :: e) with
  | none => rw [hra] at hA; cases hA
  | some qa =>
  obtain ⟨va1, EA0⟩ := qa
  rw [hra] at hA
  simp only [Option.bind_some, Option.map_eq_some_iff, Prod.mk.injEq] at hA
  obtain ⟨ea, hea, rfl, rfl⟩ := hA
  have hdr : l.drop n = o :: l.drop (n + 1) := by
    obtain ⟨hlt, hget⟩ := List.getElem?_eq_some_iff.1 hn
    rw [List.drop_eq_getElem_cons hlt, hget]
  refine (wpIn_wide (n := 1)).1 (wpIn_region_lit ?_)
  have key : wpListIn Fence.wide 1 P l.toArray Q (l.take n ++ o :: l.drop (n + 1)) a w := by
    refine runQ_listIn hS.s hS.e hS.n hr hvc fun a' k1 k2 k3 => ?_
    obtain ⟨caps, c1, c2⟩ := hcall a' w ⟨sle_projG he0 k1, k2, k3.trans hS.d, hS.s, hS.g⟩
    have hw : Region.wanted o (yielded l.toArray a'.tmps) = true := by simp [Region.wanted, hgd]
    unfold wpListIn
    rw [if_pos hw]
    refine ⟨fun _ _ => trivial, ?_⟩
    rw [show Oper.semAt Fence.wide.round a'.eval o = execOp a'.eval o from rfl, run_closure ho c1 hf w]
    refine ⟨(fun h => by cases h), callsIn_wide.2 (c2.mono ?_)⟩
    rintro en w' ⟨r, rfl, h1, h2⟩
    rw [hd]
    cases r with
    | true =>
      have hE2 : SLE F noG ((t, none, vbool true) :: e) (a'.put (some t) (.bool true)) := sle_put (dst := some t) (e := none) (sle_projG he0 k1) k2 hdk (fun _ => relV_bool) (fun h => absurd trivial h)
      have := runQ_listIn (P := P) (rest := []) (Q := Q) (m := 1) (h1 rfl).2 hE2 (by rw [put_size]; exact k2) hra trivial (fun a'' q1 q2 q3 => hkA a'' w' ⟨sle_proj hea q1, q2, (q3.trans put_defers).trans (k3.trans hS.d), (h1 rfl).2, (h1 rfl).1⟩)
      rw [List.append_nil] at this
      exact this
    | false =>
      have hE2 : SLE noF noG [(t, none, vbool false)] (a'.put (some t) (.bool false)) := sle_put (dst := some t) (e := none) (E := []) (fun u g d hu => by cases hu) k2 hdk (fun _ => relV_bool) (fun h => absurd trivial h)
      have := runQ_listIn (P := P) (rest := []) (Q := Q) (m := 1) (w := w') sub_noF hE2 (by rw [put_size]; exact k2) hB trivial (fun a'' q1 q2 q3 => hkB a'' w' ⟨q1, q2, (q3.trans put_defers).trans (k3.trans hS.d), sub_noF, h2 rfl⟩)
      rw [List.append_nil] at this
      exact this
  rw [← hdr, List.take_append_drop] at key
  exact key
end
end Go.Eng
namespace Go.Proofs.Ytjnjmnfacaakfaa
open Go.Eng
def symAt (c : Nat) : List UInt8 := (symbols.drop c).take 1
def extC (l : Lang) (rec : Nat → List UInt8 → List (List UInt8)) (q : Nat) (p : List UInt8) : Nat → List (List UInt8)
  | 0 => []
  | c + 1 => extC l rec q p c ++ (if 0 ≤ (l.Next.getD q []).getD c 0 then rec ((l.Next.getD q []).getD c 0).toNat (p ++ symAt c) else [])
def extW (l : Lang) : Nat → Nat → List UInt8 → List (List UInt8)
  | 0, q, p => if (leadR l 0).getD q false = true then [p] else []
  | n + 1, q, p => if (leadR l (n + 1)).getD q false = true then extC l (extW l n) q p 37 else []
def Iw := List (List UInt8) → World → Prop
/-- What an iterator may take for granted of the loop that it serves. -/
structure IterH (F : PHeap) (Kp : World → World → Prop) (J Jx : Iw) (M m ly : Nat) : Prop where
  dr : ∀ s, Drawn (J s)
  kd : ∀ A B : World, Kp A B → Kp A { B with drawn := B.drawn + 1 }
  kt : ∀ {A B D : World}, Kp A B → Kp B D → Kp A D
  kr : ∀ A : World, Kp A A
  js : ∀ s A, J s A → Sub F A
  yl : ∀ pre x W, J pre W → pre.length < M → YieldAt Fence.wide m Try.prog ly #[.string ⟨List.toArray x⟩] W fun e W' => (e = .returned (.bool true) ∧ J (pre ++ [x]) W' ∧ Kp W W') ∨ (e = .returned (.bool false) ∧ Jx (pre ++ [x]) W')
def capsX (l : Lang) (ly : Nat) (vs : List Value) : List PV := [.pel (eL (eL eB 1 false) 1 [] (leadsL l 12)), .pel (.v (.func (.yield ly) #[] #[])), .pel (eLang l), .pel (.v (.func (.func 50) #[] vs.toArray))]
def extR (l : Lang) (F : PHeap) (Kp : World → World → Prop) (J Jx : Iw) (n q : Nat) (p : List UInt8) (pre : List (List UInt8)) (W : World) : Ending → World → Prop :=
  fun e W' => ∃ r, e = .returned (.bool r) ∧ (r = true → (J (pre ++ extW l n q p) W' ∧ Kp W W') ∧ Sub F W') ∧ (r = false → ∃ z, z <+: extW l n q p ∧ Jx (pre ++ z) W')
def ExtP (l : Lang) (F : PHeap) (Kp : World → World → Prop) (J Jx : Iw) (M : Nat) (vs : List Value) (n q : Nat) (p : List UInt8) (pre : List (List UInt8)) (W : World) : Prop :=
  Calls Try.prog 50 (#[.int .i64 (q : Int), .int .i64 (n : Int), .string ⟨p.toArray⟩] ++ vs.toArray) W (extR l F Kp J Jx n q p pre W)
section
variable {l : Lang} {rec : Nat → List UInt8 → List (List UInt8)} {n q : Nat} {p : List UInt8}
theorem extW_no (h : (leadR l n).getD q false = false) : extW l n q p = [] := by
  cases n <;> (unfold extW; rw [if_neg (by rw [h]; simp)])
theorem extW_0 (h : (leadR l 0).getD q false = true) : extW l 0 q p = [p] := by rw [extW, if_pos h]
theorem extW_s (h : (leadR l n).getD q false = true) (hn : 0 < n) : extW l n q p = extC l (extW l (n - 1)) q p 37 := by
  obtain ⟨n, rfl⟩ : ∃ j, n = j + 1 := ⟨n - 1, by omega⟩
  rw [extW, if_pos h]; rfl
theorem extC_mono : ∀ {c d : Nat}, c ≤ d → ∃ z, extC l rec q p d = extC l rec q p c ++ z
  | c, 0, h => by obtain rfl : c = 0 := by omega
                  exact ⟨[], by simp⟩
  | c, d + 1, h => by
    by_cases hc : c = d + 1
    · subst hc; exact ⟨[], by simp⟩
    · obtain ⟨z, hz⟩ := extC_mono (c := c) (d := d) (by omega)
      rw [extC, hz, List.append_assoc]
      exact ⟨_, rfl⟩
theorem extC_yes {c : Nat} (h : 0 ≤ (l.Next.getD q []).getD c 0) : extC l rec q p (c + 1) = extC l rec q p c ++ rec ((l.Next.getD q []).getD c 0).toNat (p ++ symAt c) := by rw [extC, if_pos h]
theorem extC_no {c : Nat} (h : ¬ 0 ≤ (l.Next.getD q []).getD c 0) : extC l rec q p (c + 1) = extC l rec q p c := by rw [extC, if_neg h, List.append_nil]
end
theorem y4_of {F : PHeap} {Kp : World → World → Prop} {J Jx : Iw} {M m ly : Nat} (hI : IterH F Kp J Jx M m ly) {pre : List (List UInt8)} {p : List UInt8} {W w : World} (hJ : J pre w) (hK : Kp W w) (hlt : pre.length < M) :
    YieldAt Fence.wide m Try.prog ly #[.string ⟨p.toArray⟩] w fun e W' => (e = .returned (.bool true) ∧ (J (pre ++ [p]) W' ∧ Kp W W')) ∨ (e = .returned (.bool false) ∧ Jx (pre ++ [p]) W') :=
  let ⟨fn, tmps, assign, body, h1, h2⟩ := hI.yl pre p w hJ hlt
  ⟨fn, tmps, assign, body, h1, h2.mono fun e w' h => h.imp (fun ⟨a, b, c⟩ => ⟨a, b, hI.kt hK c⟩) id⟩
theorem symAt_len (c : Nat) : (symAt c).length ≤ 1 := by simp [symAt]; omega
theorem ext_ok (l : Lang) (hok : check l = 0) (F : PHeap) (Kp : World → World → Prop) (J Jx : Iw) (M m ly : Nat) (hI : IterH F Kp J Jx M m ly) (vs : List Value) (hvs : vs.length = 4) (hv : ∀ (i : Nat) p v, (capsX l ly vs)[i]? = some p → vs[i]? = some v → RelP F p [v]) :
    ∀ (n q : Nat) (p : List UInt8) (pre : List (List UInt8)) (W : World), n ≤ 12 → q < l.Accept.length → p.length + n ≤ 12 → pre.length + (extW l n q p).length ≤ M → Sub F W → J pre W → ExtP l F Kp J Jx M vs n q p pre W := by
  intro n
  induction n using Nat.strongRecOn with
  | ind n ih =>
    intro q p pre W hn hq hp hM hs hJ
    obtain ⟨f1, f2, f3, f4⟩ := check_facts hok
    have hrow := f4 q (by omega)
    have hrl := hrow.1
    unfold ExtP
    rw [show #[Value.int .i64 (q : Int), .int .i64 (n : Int), .string ⟨p.toArray⟩] ++ vs.toArray = ([Value.int .i64 (q : Int), .int .i64 (n : Int), .string ⟨p.toArray⟩] ++ vs).toArray from by simp]
    refine calls_of_tq (F := F) (args := [.v (.int .i64 (q : Int)), .v (.int .i64 (n : Int)), .s p] ++ capsX l ly vs) (G := fun w => J pre w ∧ Kp W w) (fn := Try.f50) Try.func50 rfl (by kernel_rfl) (by simp [hvs, capsX]) ?_ hs ⟨hJ, hI.kr W⟩ ?_
    · intro i pv v h1 h2
      match i with
      | 0 => cases h1; cases h2; exact relV_int
      | 1 => cases h1; cases h2; exact relV_int
      | 2 => cases h1; cases h2; exact relV_str
      | i + 3 =>
        have h3 : (capsX l ly vs)[i]? = some pv := h1
        have := hv i pv v h3 h2
        have hm : pv.many = false := by
          unfold capsX at h3
          match i with
          | 0 => cases h3; rfl
          | 1 => cases h3; rfl
          | 2 => cases h3; rfl
          | 3 => cases h3; rfl
          | i + 4 => simp at h3
        exact .one hm (.p this)
    refine tq_seq ?_
    refine tq_reg (vc := []) (E' := [(0, none, vint .i64 ((q : Nat) : Int)), (1, none, vint .i64 ((n : Nat) : Int)), (2, none, vstr p), (3, none, .p (.pel ((eL (eL eB 1 false) 1 []) (leadsL l 12)))), (4, none, .p (.pel (.v (.func (.yield ly) #[] #[])))), (5, none, .p (.pel (eLang l))), (6, none, .p (.pel (.v (.func (.func 50) #[] vs.toArray))))]) [] [0, 1, 2, 3, 4, 5, 6] (by kernel_rfl) ?_ ?_
    · exact trivial
    refine tq_then ?_
    refine tq_seq ?_
    refine tq_seq ?_
    refine tq_reg (vc := [(0 : Int) ≤ ((n : Nat) : Int), ((n : Nat) : Int) < ((leadsL l 12).length : Int), (0 : Int) ≤ ((q : Nat) : Int), ((q : Nat) : Int) < (((leadsL l 12).getD n []).length : Int), (((leadsL l 12).getD n []).getD q false) = ((leadR l n).getD q false)]) (E' := [(0, none, vint .i64 ((q : Nat) : Int)), (1, none, vint .i64 ((n : Nat) : Int)), (2, none, vstr p), (4, none, .p (.pel (.v (.func (.yield ly) #[] #[])))), (5, none, .p (.pel (eLang l))), (6, none, .p (.pel (.v (.func (.func 50) #[] vs.toArray)))), (20, none, vbool (!((leadR l n).getD q false)))]) [(6, vbool ((leadR l n).getD q false))] [0, 1, 2, 4, 5, 6, 20] (by kernel_rfl) ?_ ?_
    · refine al ?_ (al ?_ (al ?_ (al ?_ (al ?_ (trivial)))))
      · omega
      · rw [leadsL_len]; omega
      · omega
      · rw [leadsL_get (by omega), leadR_len]; omega
      · rw [leadsL_get (by omega)]
    refine tq_then ?_
    refine tq_condP (!((leadR l n).getD q false)) (((leadR l n).getD q false) = false) (by simp) (by kernel_rfl) (fun hc1 => ?_) (fun hc1 => ?_)
    · skip
      refine tq_seq ?_
      refine tq_reg (vc := []) (E' := [(10, none, vbool true)]) [] [10] (by kernel_rfl) ?_ ?_
      · exact trivial
      refine tq_then ?_
      refine tq_return (rs := Try.f50.results) (R := extR l F Kp J Jx n q p pre W) (vc := []) (ds := [vbool true]) (by kernel_rfl) trivial (fun _ _ h => h) ?_ -- ret1
      exact fun w_ v_ hr hg => ⟨true, by rw [asBool_val (b := true) rfl hr], fun _ => ⟨⟨by rw [extW_no hc1, List.append_nil]; exact hg.1, hg.2⟩, hI.js _ _ hg.1⟩, fun h => by cases h⟩
    · skip
      refine tq_skip ?_
      refine tq_then ?_
      refine tq_seq ?_
      refine tq_seq ?_
      refine tq_reg (vc := []) (E' := [(0, none, vint .i64 ((q : Nat) : Int)), (1, none, vint .i64 ((n : Nat) : Int)), (2, none, vstr p), (4, none, .p (.pel (.v (.func (.yield ly) #[] #[])))), (5, none, .p (.pel (eLang l))), (6, none, .p (.pel (.v (.func (.func 50) #[] vs.toArray)))), (22, none, vbool (((n : Nat) : Int) == 0))]) [] [0, 1, 2, 4, 5, 6, 22] (by kernel_rfl) ?_ ?_
      · exact trivial
      refine tq_then ?_
      refine tq_condP (((n : Nat) : Int) == 0) (((n : Nat) : Int) = 0) (by simp) (by kernel_rfl) (fun hc2 => ?_) (fun hc2 => ?_)
      · skip
        refine tq_seq ?_
        have hx0 : extW l n q p = [p] := (by obtain rfl : n = 0 := (by omega); exact extW_0 (eq_true_of_ne_false hc1))
        refine tq_yield (ly := ly) (m := m) (s := p) (Gt := fun w => J (pre ++ [p]) w ∧ Kp W w) (Gf := fun w => Jx (pre ++ [p]) w) (vc := []) (E1 := [(23, none, .p (.v (.func (.yield ly) #[] #[]))), (24, none, vstr p)]) (E2 := fun b => [(10, none, vbool b), (25, none, vbool b)]) 2 [23, 24] (by kernel_rfl) ?_ rfl rfl rfl rfl (by kernel_rfl) (fun b => by kernel_rfl) ?_ ?_ ?_
        · exact trivial
        · exact fun a_ h_ => ⟨eval_v (x := .func (.yield ly) #[] #[]) h_ (by kernel_rfl), by rw [show (#[Operand.tmp 24].map a_.eval) = #[a_.eval (.tmp 24)] from by simp, eval_s (l := p) h_ (by kernel_rfl)]⟩
        · exact fun w_ hg => y4_of hI hg.1 hg.2 (by rw [hx0] at hM; simp at hM; omega)
        refine fun b => nq_pre (F := noF) (E' := [(10, none, vbool b)]) (fun a_ w_ hS => qs_proj (ts := [10]) (by kernel_rfl) hS) ?_
        refine tq_then ?_
        refine tq_return (rs := Try.f50.results) (R := extR l F Kp J Jx n q p pre W) (vc := []) (ds := [vbool b]) (by kernel_rfl) trivial (fun _ _ h => h) ?_ -- ret2
        exact fun w_ v_ hr hg => ⟨b, by rw [asBool_val (b := b) rfl hr], fun h => ⟨by rw [hx0]; exact hg.1 h, hI.js _ _ (hg.1 h).1⟩, fun h => ⟨[p], by simp [hx0], hg.2 h⟩⟩
      · skip
        refine tq_skip ?_
        refine tq_then ?_
        refine tq_seq ?_
        refine tq_seq ?_
        refine tq_reg (vc := [(0 : Int) ≤ ((q : Nat) : Int), ((q : Nat) : Int) < (l.Next.length : Int)]) (E' := [(1, none, vint .i64 ((n : Nat) : Int)), (2, none, vstr p), (6, none, .p (.pel (.v (.func (.func 50) #[] vs.toArray)))), (30, none, .p ((eL eI 1 0) (l.Next.getD q []))), (31, none, vint .i64 (((l.Next.getD q []).length : Nat) : Int)), (32, none, vint .i64 0)]) [] [1, 2, 6, 30, 31, 32] (by kernel_rfl) ?_ ?_
        · refine al ?_ (al ?_ (trivial))
          · omega
          · omega
        refine tq_then ?_
        refine tq_block ?_
        refine tq_loop (α := Nat) (fun z : Nat => (fun (c : Nat) => [(1, none, vint .i64 ((n : Nat) : Int)), (2, none, vstr p), (6, none, .p (.pel (.v (.func (.func 50) #[] vs.toArray)))), (30, none, .p ((eL eI 1 0) (l.Next.getD q []))), (31, none, vint .i64 (((l.Next.getD q []).length : Nat) : Int)), (32, none, vint .i64 ((c : Nat) : Int))]) z) (fun z : Nat => (fun (c : Nat) => (fun w_ => J (pre ++ extC l (extW l (n - 1)) q p c) w_ ∧ Kp W w_)) z) (fun z : Nat => (fun (c : Nat) => (c ≤ 37)) z) (fun z : Nat => (fun (c : Nat) => 37 - c) z) 0 ?_ ?_ ?_
        · show (0 ≤ 37)
          · omega
        · intro A_ W_ hS
          replace hS := qs_set (d := vint .i64 0) 32 (vint .i64 ((0 : Nat) : Int)) (by kernel_rfl) (eqD_int (by omega)) hS
          exact qs_g (by exact fun w_ hg => ⟨by rw [extC, List.append_nil]; exact hg.1, hg.2⟩) (qs_proj (ts := [1, 2, 6, 30, 31, 32]) (by kernel_rfl) hS)
        · intro z hz
          revert z; intro c hz
          have hz : (c ≤ 37) := hz
          have hi0_0 := hz
          refine tq_seq ?_
          refine tq_reg (vc := []) (E' := [(1, none, vint .i64 ((n : Nat) : Int)), (2, none, vstr p), (6, none, .p (.pel (.v (.func (.func 50) #[] vs.toArray)))), (30, none, .p ((eL eI 1 0) (l.Next.getD q []))), (31, none, vint .i64 (((l.Next.getD q []).length : Nat) : Int)), (32, none, vint .i64 ((c : Nat) : Int)), (33, none, vbool (decide (((c : Nat) : Int) < (((l.Next.getD q []).length : Nat) : Int))))]) [] [1, 2, 6, 30, 31, 32, 33] (by kernel_rfl) ?_ ?_
          · exact trivial
          refine tq_then ?_
          refine tq_seq ?_
          refine tq_condP (decide (((c : Nat) : Int) < (((l.Next.getD q []).length : Nat) : Int))) (((c : Nat) : Int) < (((l.Next.getD q []).length : Nat) : Int)) (by simp) (by kernel_rfl) (fun hc3 => ?_) (fun hc3 => ?_)
          · skip
            refine tq_skip ?_
            refine tq_then ?_
            refine tq_seq ?_
            refine tq_block ?_
            refine tq_seq ?_
            refine tq_reg (vc := [(0 : Int) ≤ ((c : Nat) : Int), ((c : Nat) : Int) < ((l.Next.getD q []).length : Int)]) (E' := [(1, none, vint .i64 ((n : Nat) : Int)), (2, none, vstr p), (6, none, .p (.pel (.v (.func (.func 50) #[] vs.toArray)))), (11, none, vint .i64 ((c : Nat) : Int)), (12, none, vint .i64 ((l.Next.getD q []).getD c 0)), (30, none, .p ((eL eI 1 0) (l.Next.getD q []))), (31, none, vint .i64 (((l.Next.getD q []).length : Nat) : Int)), (32, none, vint .i64 ((c : Nat) : Int))]) [] [1, 2, 6, 11, 12, 30, 31, 32] (by kernel_rfl) ?_ ?_
            · refine al ?_ (al ?_ (trivial))
              · omega
              · omega
            refine tq_then ?_
            refine tq_seq ?_
            refine tq_callG (f := 50) (tg := 39) (b := (decide (0 ≤ (l.Next.getD q []).getD c 0))) (Gt := fun w => J (pre ++ extC l (extW l (n - 1)) q p (c + 1)) w ∧ Kp W w) (Gf := fun w => ∃ z, z <+: extW l n q p ∧ Jx (pre ++ z) w) (vc := [(decide (0 ≤ ((l.Next.getD q []).getD c 0))) = true → (decide (0 ≤ ((l.Next.getD q []).getD c 0))) = true, (decide (0 ≤ ((l.Next.getD q []).getD c 0))) = true → ((IntKind.wrap .i64 (((n : Nat) : Int) - 1)) = (((n - 1) : Nat) : Int)), (decide (0 ≤ ((l.Next.getD q []).getD c 0))) = true → (decide (0 ≤ ((l.Next.getD q []).getD c 0))) = true, (decide (0 ≤ ((l.Next.getD q []).getD c 0))) = true → ((IntKind.wrap .i64 (((c : Nat) : Int) + 1)) = (((c + 1) : Nat) : Int)), (decide (0 ≤ ((l.Next.getD q []).getD c 0))) = true → (decide (0 ≤ ((l.Next.getD q []).getD c 0))) = true, (decide (0 ≤ ((l.Next.getD q []).getD c 0))) = true → (decide (0 ≤ ((l.Next.getD q []).getD c 0))) = true, (decide (0 ≤ ((l.Next.getD q []).getD c 0))) = true → ((0 : Int) ≤ ((c : Nat) : Int)), (decide (0 ≤ ((l.Next.getD q []).getD c 0))) = true → (((c : Nat) : Int) ≤ (((c + 1) : Nat) : Int)), (decide (0 ≤ ((l.Next.getD q []).getD c 0))) = true → ((((c + 1) : Nat) : Int) ≤ (([97, 98, 99, 100, 101, 102, 103, 104, 105, 106, 107, 108, 109, 110, 111, 112, 113, 114, 115, 116, 117, 118, 119, 120, 121, 122, 48, 49, 50, 51, 52, 53, 54, 55, 56, 57, 45] : List UInt8).length : Int)), (decide (0 ≤ ((l.Next.getD q []).getD c 0))) = true → (decide (0 ≤ ((l.Next.getD q []).getD c 0))) = true, (decide (0 ≤ ((l.Next.getD q []).getD c 0))) = true → (decide (0 ≤ ((l.Next.getD q []).getD c 0))) = true, (decide (0 ≤ ((l.Next.getD q []).getD c 0))) = true → (((p.length + ((([97, 98, 99, 100, 101, 102, 103, 104, 105, 106, 107, 108, 109, 110, 111, 112, 113, 114, 115, 116, 117, 118, 119, 120, 121, 122, 48, 49, 50, 51, 52, 53, 54, 55, 56, 57, 45] : List UInt8).drop c).take ((c + 1) - c)).length : Nat) : Int) ≤ 9223372036854775807), (decide (0 ≤ ((l.Next.getD q []).getD c 0))) = true → ((p ++ ((([97, 98, 99, 100, 101, 102, 103, 104, 105, 106, 107, 108, 109, 110, 111, 112, 113, 114, 115, 116, 117, 118, 119, 120, 121, 122, 48, 49, 50, 51, 52, 53, 54, 55, 56, 57, 45] : List UInt8).drop c).take ((c + 1) - c))) = (p ++ symAt c))]) (va := [(decide (0 ≤ ((l.Next.getD q []).getD c 0))) = true → (decide (0 ≤ (l.Next.getD q []).getD c 0)) = true, (decide (0 ≤ ((l.Next.getD q []).getD c 0))) = true → (decide (0 ≤ ((l.Next.getD q []).getD c 0))) = true]) (vb := [(decide (0 ≤ (l.Next.getD q []).getD c 0)) = true → (decide (0 ≤ (l.Next.getD q []).getD c 0)) = true, (decide (0 ≤ (l.Next.getD q []).getD c 0)) = true → (decide (0 ≤ (l.Next.getD q []).getD c 0)) = true]) (E1 := [(1, none, vint .i64 ((n : Nat) : Int)), (2, none, vstr p), (6, none, .p (.pel (.v (.func (.func 50) #[] vs.toArray)))), (30, none, .p ((eL eI 1 0) (l.Next.getD q []))), (31, none, vint .i64 (((l.Next.getD q []).length : Nat) : Int)), (32, none, vint .i64 ((c : Nat) : Int)), (38, none, vbool (decide (0 ≤ ((l.Next.getD q []).getD c 0)))), (39, none, vbool (decide (0 ≤ ((l.Next.getD q []).getD c 0)))), (40, some (decide (0 ≤ ((l.Next.getD q []).getD c 0))), .p (.v (.func (.func 50) #[] vs.toArray))), (41, some (decide (0 ≤ ((l.Next.getD q []).getD c 0))), vint .i64 ((l.Next.getD q []).getD c 0)), (43, some (decide (0 ≤ ((l.Next.getD q []).getD c 0))), vint .i64 (((n - 1) : Nat) : Int)), (49, some (decide (0 ≤ ((l.Next.getD q []).getD c 0))), vstr (p ++ symAt c))]) (EA := [(1, none, vint .i64 ((n : Nat) : Int)), (2, none, vstr p), (6, none, .p (.pel (.v (.func (.func 50) #[] vs.toArray)))), (30, none, .p ((eL eI 1 0) (l.Next.getD q []))), (31, none, vint .i64 (((l.Next.getD q []).length : Nat) : Int)), (32, none, vint .i64 ((c : Nat) : Int)), (52, none, vbool (bif (decide (0 ≤ ((l.Next.getD q []).getD c 0))) then (!true) else false))]) (EB := [(52, none, vbool (bif (decide (0 ≤ (l.Next.getD q []).getD c 0)) then (!false) else false)), (51, some (decide (0 ≤ (l.Next.getD q []).getD c 0)), vbool (!false)), (50, some (decide (0 ≤ (l.Next.getD q []).getD c 0)), vbool false), (39, none, vbool (decide (0 ≤ (l.Next.getD q []).getD c 0)))]) 13 [(6, vint .i64 (((n - 1) : Nat) : Int)), (10, vint .i64 (((c + 1) : Nat) : Int)), (12, vstr (p ++ symAt c))] [1, 2, 6, 30, 31, 32, 38, 39, 40, 41, 43, 49] [1, 2, 6, 30, 31, 32, 52] (by kernel_rfl) (by kernel_rfl) (by kernel_rfl) ?_ rfl rfl rfl (by kernel_rfl) (by kernel_rfl) (by kernel_rfl) ?_ (by kernel_rfl) (by kernel_rfl) ?_ (by kernel_rfl) ?_ ?_ ?_ ?_
            · refine al ?_ (al ?_ (al ?_ (al ?_ (al ?_ (al ?_ (al ?_ (al ?_ (al ?_ (al ?_ (al ?_ (al ?_ (al ?_ (trivial)))))))))))))
              · exact id
              · intro _; exact wr64 (by omega) (by omega) (by omega)
              · exact id
              · intro _; exact wr64 (by omega) (by omega) (by omega)
              · exact id
              · exact id
              · omega
              · omega
              · (simp_all; omega)
              · exact id
              · exact id
              · (simp_all; omega)
              · intro _; rw [show (c + 1) - c = 1 by omega]; rfl
            · exact fun w_ hg => ⟨hI.dr _ _ hg.1, hI.kd _ _ hg.2⟩
            · refine al ?_ (al ?_ (trivial))
              · (simp; done) -- r8a.0
              · exact id -- r8a.1
            · refine al ?_ (al ?_ (trivial))
              · exact id -- r8b.0
              · exact id -- r8b.1
            · intro hb a_ w_ hS
              have h0 : 0 ≤ (l.Next.getD q []).getD c 0 := of_decide_eq_true hb
              have hlead := eq_true_of_ne_false hc1
              have hok2 := hrow.2 c (by omega)
              refine ⟨vs.toArray, eval_vg (x := .func (.func 50) #[] vs.toArray) hb hS.e (by kernel_rfl), ?_⟩
              have e1 := eval_vg (x := .int .i64 ((l.Next.getD q []).getD c 0)) hb hS.e (t := 41) (by kernel_rfl)
              have e2 := eval_vg (x := .int .i64 ((n - 1 : Nat) : Int)) hb hS.e (t := 43) (by kernel_rfl)
              have e3 := eval_sg (l := p ++ symAt c) hb hS.e (t := 49) (by kernel_rfl)
              rw [show (#[Operand.tmp 41, Operand.tmp 43, Operand.tmp 49].map a_.eval) = #[a_.eval (.tmp 41), a_.eval (.tmp 43), a_.eval (.tmp 49)] from by simp, e1, e2, e3, ← Int.toNat_of_nonneg h0]
              obtain ⟨y2, hy2⟩ := extC_mono (l := l) (rec := extW l (n - 1)) (q := q) (p := p) (c := c + 1) (d := 37) (by omega)
              have hw : extW l n q p = extC l (extW l (n - 1)) q p c ++ extW l (n - 1) ((l.Next.getD q []).getD c 0).toNat (p ++ symAt c) ++ y2 := by rw [extW_s hlead (by omega), hy2, extC_yes h0]
              have hlen := symAt_len c
              have hM2 := hM
              rw [hw] at hM2
              simp only [List.length_append] at hM2
              have hc := ih (n - 1) (by omega) ((l.Next.getD q []).getD c 0).toNat (p ++ symAt c) (pre ++ extC l (extW l (n - 1)) q p c) w_ (by omega) (by omega) (by simp only [List.length_append]; omega) (by simp only [List.length_append]; omega) hS.s hS.g.1
              unfold ExtP at hc
              refine hc.mono ?_
              rintro e w' ⟨r, rfl, h1, h2⟩
              refine ⟨r, rfl, fun h => ⟨⟨?_, hI.kt hS.g.2 (h1 h).1.2⟩, (h1 h).2⟩, fun h => ?_⟩
              · rw [extC_yes h0, ← List.append_assoc]; exact (h1 h).1.1
              · obtain ⟨z, ⟨y, hz⟩, hj⟩ := h2 h
                refine ⟨extC l (extW l (n - 1)) q p c ++ z, ?_, by rw [← List.append_assoc]; exact hj⟩
                rw [hw, ← hz]
                exact ⟨y ++ y2, by simp⟩
            · refine nq_pre (F := F) (E' := [(1, none, vint .i64 ((n : Nat) : Int)), (2, none, vstr p), (6, none, .p (.pel (.v (.func (.func 50) #[] vs.toArray)))), (30, none, .p ((eL eI 1 0) (l.Next.getD q []))), (31, none, vint .i64 (((l.Next.getD q []).length : Nat) : Int)), (32, none, vint .i64 ((c : Nat) : Int)), (52, none, vbool false)]) (G' := fun w => J (pre ++ extC l (extW l (n - 1)) q p (c + 1)) w ∧ Kp W w) (fun a_ w_ hS => qs_g (fun w_ hg => ?_) (qs_proj (ts := [1, 2, 6, 30, 31, 32, 52]) (by kernel_rfl) (qs_set (d := vbool (bif (decide (0 ≤ ((l.Next.getD q []).getD c 0))) then (!true) else false)) 52 (vbool false) (by kernel_rfl) (eqD_bool (by cases (decide (0 ≤ (l.Next.getD q []).getD c 0)) <;> rfl)) hS))) ?_
              · by_cases h0 : 0 ≤ (l.Next.getD q []).getD c 0
                · exact hg.2 (decide_eq_true h0)
                · rw [extC_no h0]; exact hg.1 (decide_eq_false h0)
              refine tq_then ?_
              refine tq_cond false (by kernel_rfl) (fun h => ?_) (fun h => ?_)
              · cases h
              · skip
                refine tq_skip ?_
                refine qin_n ?_
                refine tq_then ?_
                refine tq_reg (vc := [(IntKind.wrap .i64 (((c : Nat) : Int) + 1)) = (((c + 1) : Nat) : Int)]) (E' := [(1, none, vint .i64 ((n : Nat) : Int)), (2, none, vstr p), (6, none, .p (.pel (.v (.func (.func 50) #[] vs.toArray)))), (30, none, .p ((eL eI 1 0) (l.Next.getD q []))), (31, none, vint .i64 (((l.Next.getD q []).length : Nat) : Int)), (32, none, vint .i64 (((c + 1) : Nat) : Int))]) [(0, vint .i64 (((c + 1) : Nat) : Int))] [1, 2, 6, 30, 31, 32] (by kernel_rfl) ?_ ?_
                · refine al ?_ (trivial)
                  · exact wr64 (by omega) (by omega) (by omega)
                refine qlp_end (c + 1) ?_ ?_ ?_
                · show ((c + 1) ≤ 37)
                  · omega
                · show 37 - (c + 1) < 37 - c
                  omega
                · intro A_ W_ hS
                  exact qs_g (by exact fun _ h => h) (qs_proj (ts := [1, 2, 6, 30, 31, 32]) (by kernel_rfl) hS)
            · intro hb
              refine nq_pre (F := noF) (E' := [(52, none, vbool true)]) (G' := fun w => ∃ z, z <+: extW l n q p ∧ Jx (pre ++ z) w) (fun a_ w_ hS => qs_proj (ts := [52]) (by kernel_rfl) (qs_set (d := vbool (bif (decide (0 ≤ (l.Next.getD q []).getD c 0)) then (!false) else false)) 52 (vbool true) (by kernel_rfl) (eqD_bool (by rw [hb]; rfl)) hS)) ?_
              refine tq_then ?_
              refine tq_cond true (by kernel_rfl) (fun h => ?_) (fun h => ?_)
              · skip
                refine tq_seq ?_
                refine tq_reg (vc := []) (E' := [(10, none, vbool false)]) [] [10] (by kernel_rfl) ?_ ?_
                · exact trivial
                refine tq_then ?_
                refine tq_return (rs := Try.f50.results) (R := extR l F Kp J Jx n q p pre W) (vc := []) (ds := [vbool false]) (by kernel_rfl) trivial (fun _ _ h => h) ?_ -- ret3
                exact fun w_ v_ hr hg => ⟨false, by rw [asBool_val (b := false) rfl hr], (fun h => by cases h), fun _ => hg⟩
              · cases h
          · skip
            refine tq_exit ?_
            refine tqh_e ?_
            refine tqh_e ?_
            refine qin_hit ?_
            refine tq_then ?_
            refine tq_seq ?_
            refine tq_reg (vc := []) (E' := [(10, none, vbool true)]) [] [10] (by kernel_rfl) ?_ ?_
            · exact trivial
            refine tq_then ?_
            refine tq_return (rs := Try.f50.results) (R := extR l F Kp J Jx n q p pre W) (vc := []) (ds := [vbool true]) (by kernel_rfl) trivial (fun _ _ h => h) ?_ -- ret4
            exact fun w_ v_ hr hg => ⟨true, by rw [asBool_val (b := true) rfl hr], fun _ => ⟨⟨by rw [extW_s (eq_true_of_ne_false hc1) (by omega)]; obtain rfl : c = 37 := (by omega); exact hg.1, hg.2⟩, hI.js _ _ hg.1⟩, fun h => by cases h⟩
end Go.Proofs.Ytjnjmnfacaakfaa
namespace Go.Proofs.Ytjnjmnfacaakfaa
open Go.Eng
def allC (l : Lang) : Nat → List (List UInt8)
  | 0 => []
  | c + 1 => allC l c ++ extW l c 0 []
def allW (l : Lang) : List (List UInt8) := allC l 13
theorem allC_mono {l : Lang} : ∀ {c d : Nat}, c ≤ d → ∃ z, allC l d = allC l c ++ z
  | c, 0, h => by obtain rfl : c = 0 := by omega
                  exact ⟨[], by simp⟩
  | c, d + 1, h => by
    by_cases hc : c = d + 1
    · subst hc; exact ⟨[], by simp⟩
    · obtain ⟨z, hz⟩ := allC_mono (l := l) (c := c) (d := d) (by omega)
      rw [allC, hz, List.append_assoc]
      exact ⟨_, rfl⟩
/-- What the loop's body keeps: all rows but its own variable bo, and rows of strings that are younger than the loop. -/
def KpB (bo B1 : Nat) (A B : World) : Prop := A.heap.size ≤ B.heap.size ∧ ∀ (k : Nat) c T fz, A.heap[k]? = some (.cells c T fz) → k ≠ bo → (k < B1 ∨ T ≠ 9) → B.heap[k]? = some (.cells c T fz)
theorem KpB.refl {bo B1 : Nat} (A : World) : KpB bo B1 A A := ⟨Nat.le_refl _, fun _ _ _ _ h _ _ => h⟩
theorem KpB.trans {bo B1 : Nat} {A B D : World} (h : KpB bo B1 A B) (k : KpB bo B1 B D) : KpB bo B1 A D := ⟨Nat.le_trans h.1 k.1, fun i c T fz h1 h2 h3 => k.2 i c T fz (h.2 i c T fz h1 h2 h3) h2 h3⟩
section
variable (l : Lang) (hok : check l = 0) (F : PHeap) (bo B1 : Nat) (v1 v2 v3 : Value)
def iterY (ly : Nat) : Value := .func (.yield ly) #[] #[]
def iterVs (v1 v2 : Value) (W : World) : List Value := [v1, .pointer (some ⟨W.heap.size, 0, none⟩), v2, .pointer (some ⟨W.heap.size + 1, 0, none⟩)]
def iterX (v1 v2 : Value) (W : World) : Value := .func (.func 50) #[] (iterVs v1 v2 W).toArray
def iterW (ly : Nat) (v1 v2 : Value) (W : World) : World := ((W.alloc (.cells #[iterY ly] 100)).alloc (.cells #[.nilFunc] 101)).setCell ⟨W.heap.size + 1, 0, none⟩ (iterX v1 v2 W)
theorem iterW_b1 {ly : Nat} {v1 v2 : Value} {W : World} : Boxed (iterW ly v1 v2 W) (W.heap.size + 1) 101 (iterX v1 v2 W) := by
  have := Boxed.new (W.alloc (.cells #[iterY ly] 100)) 101 .nilFunc
  rw [World.size_alloc] at this
  exact this.set _
theorem iterW_b0 {ly : Nat} {v1 v2 : Value} {W : World} : Boxed (iterW ly v1 v2 W) W.heap.size 100 (iterY ly) := by
  have h := (Boxed.new W 100 (iterY ly)).alloc (.cells #[.nilFunc] 101)
  exact h.kept (grownBy_setCell' _ _ _) (by simp)
theorem iterW_grown {ly : Nat} {v1 v2 : Value} {W : World} : W.grownBy (iterW ly v1 v2 W) none := by
  have h := grownBy_setCell' ((W.alloc (.cells #[iterY ly] 100)).alloc (.cells #[.nilFunc] 101)) (W.heap.size + 1) (iterX v1 v2 W)
  have h1 := World.grownBy_alloc W (.cells #[iterY ly] 100) none
  have h2 := World.grownBy_alloc (W.alloc (.cells #[iterY ly] 100)) (.cells #[.nilFunc] 101) none
  have hs := h1.size
  have hs2 := h2.size
  refine ⟨h.os.trans (h2.os.trans h1.os), h.tape.trans (h2.tape.trans h1.tape), h.output.trans (h2.output.trans h1.output), Nat.le_trans hs (Nat.le_trans hs2 h.size), fun k hk _ => ?_⟩
  exact (h.block k (by omega) (by simp; omega)).trans ((h2.block k (by omega) (by simp)).trans (h1.block k hk (by simp)))
/-- What the iterator reads while it runs. -/
def iterF (F : PHeap) (ly : Nat) (v1 v2 : Value) (W : World) : PHeap := fun b => if b = W.heap.size then some #[iterY ly] else if b = W.heap.size + 1 then some #[iterX v1 v2 W] else F b
def iterJ (F : PHeap) (J : Iw) (ly : Nat) (v1 v2 : Value) (W : World) : Iw := fun s A => J s A ∧ Boxed A W.heap.size 100 (iterY ly) ∧ Boxed A (W.heap.size + 1) 101 (iterX v1 v2 W) ∧ Sub F A
theorem iterF_old {F : PHeap} {ly : Nat} {v1 v2 : Value} {W : World} (hs : Sub F W) {b : Nat} {c : Array Value} (h : F b = some c) : iterF F ly v1 v2 W b = some c := by
  obtain ⟨T, fz, e⟩ := hs b c h
  have := (Array.getElem?_eq_some_iff.1 e).1
  unfold iterF
  rw [if_neg (by omega), if_neg (by omega)]
  exact h
theorem iter_H {F : PHeap} {J Jx : Iw} {bo B1 M m ly : Nat} {v1 v2 : Value} {W : World} (hs : Sub F W) (hBW : B1 ≤ W.heap.size) (hbo : bo < B1) (hF : ∀ b c, F b = some c → b ≠ bo ∧ b < B1) (hJ : AbidesFrom W.heap.size J)
    (hY : ∀ pre x W1, J pre W1 → pre.length < M → YieldAt Fence.wide m Try.prog ly #[.string ⟨List.toArray x⟩] W1 fun e W' => (e = .returned (.bool true) ∧ J (pre ++ [x]) W' ∧ KpB bo B1 W1 W') ∨ (e = .returned (.bool false) ∧ Jx (pre ++ [x]) W')) :
    IterH (iterF F ly v1 v2 W) (KpB bo B1) (iterJ F J ly v1 v2 W) Jx M m ly where
  dr := fun s A ⟨h1, h2, h3, h4⟩ => ⟨hJ s A _ none h1 ⟨rfl, rfl, rfl, Nat.le_refl _, fun _ _ _ => rfl⟩ (fun r e => by cases e), h2, h3, h4⟩
  kd := fun A B h => h
  kt := fun h k => h.trans k
  kr := KpB.refl
  js := fun s A ⟨_, h2, h3, h4⟩ b c hb => by
    unfold iterF at hb
    split at hb
    · rename_i e; cases hb; rw [e]; exact ⟨_, _, h2⟩
    · split at hb
      · rename_i e; cases hb; rw [e]; exact ⟨_, _, h3⟩
      · exact h4 b c hb
  yl := fun pre x A ⟨h1, h2, h3, h4⟩ hlt => by
    obtain ⟨fn, tmps, assign, body, q1, q2⟩ := hY pre x A h1 hlt
    refine ⟨fn, tmps, assign, body, q1, q2.mono fun e A' h => h.imp (fun ⟨a, b, k⟩ => ⟨a, ⟨b, k.2 _ _ _ _ h2 (by omega) (.inr (by decide)), k.2 _ _ _ _ h3 (by omega) (.inr (by decide)), fun b' c hb => ?_⟩, k⟩) id⟩
    obtain ⟨T, fz, e1⟩ := h4 b' c hb
    exact ⟨T, fz, k.2 _ _ _ _ e1 (hF b' c hb).1 (.inl (hF b' c hb).2)⟩
theorem sle_nil0 {F : PHeap} {a : Act} : SLE F noG [] a := fun u g d hu => by cases hu
theorem sle_cons {F : PHeap} {E : Env} {a : Act} {t : Nat} {d : D} {v : Value} (h1 : a.tmps[t]? = some v) (h2 : RelV F noG d v) (h3 : SLE F noG E a) : SLE F noG ((t, none, d) :: E) a := by
  intro u g d' hu
  simp only [Env.get] at hu
  cases hb : Nat.beq t u with
  | true =>
    rw [hb] at hu
    simp only [cond_true, Option.some.injEq, Prod.mk.injEq] at hu
    obtain ⟨rfl, rfl⟩ := hu
    rw [← Nat.eq_of_beq_eq_true hb]
    exact ⟨fun _ => ⟨v, h1, h2⟩, fun hn => absurd trivial hn⟩
  | false => rw [hb] at hu; exact h3 u g d' (by simpa using hu)
theorem iterW_eq (ly : Nat) (v1 v2 : Value) (W : World) : ((W.alloc (.cells #[Value.func (.yield ly) #[] #[]] 100)).alloc (.cells #[.nilFunc] 101)).setCell ⟨W.heap.size + 1, 0, none⟩ (.func (.func 50) #[] #[v1, .pointer (some ⟨W.heap.size, 0, none⟩), v2, .pointer (some ⟨W.heap.size + 1, 0, none⟩)]) = iterW ly v1 v2 W := rfl
set_option maxRecDepth 100000 in
theorem words1_ok (l : Lang) (hok : check l = 0) (F : PHeap) (bo B1 n : Nat) (v1 v2 v3 : Value) (w0 : World) (hs0 : Sub F w0) (hB1 : w0.heap.size = B1) (hbo : bo < B1) (hF : ∀ b c, F b = some c → b ≠ bo ∧ b < B1)
    (hv1 : RelP F (.pel (eL (eL eB 1 false) 1 [] (leadsL l 12))) [v1]) (hv2 : RelP F (.pel (eLang l)) [v2]) (hv3 : RelP F (.pel (.v (.int .i64 12))) [v3]) :
    SeqStopsK Fence.wide n Try.prog 49 #[v1, v2, v3] (fun x : List UInt8 => #[.string ⟨x.toArray⟩]) (KpB bo B1) (fun xs => xs = allW l) (fun pre => pre <+: allW l) (allW l).length w0 := by
  intro ly J Jx W hW hJ hJx hY h0
  have hBW : B1 ≤ W.heap.size := by rw [← hB1]; exact hW.size
  have hs : Sub F W := fun b c hb => by
    obtain ⟨T, fz, e⟩ := hs0 b c hb
    have hlt := (Array.getElem?_eq_some_iff.1 e).1
    exact ⟨T, fz, (hW.block b hlt).trans e⟩
  have hI := iter_H (v1 := v1) (v2 := v2) hs hBW hbo hF hJ hY
  obtain ⟨f1, f2, f3, f4⟩ := check_facts hok
  refine callsIn_wide.2 ?_
  have hW2 := iterW_grown (ly := ly) (v1 := v1) (v2 := v2) (W := W)
  have hJ0 : iterJ F J ly v1 v2 W [] (iterW ly v1 v2 W) := ⟨hJ [] W _ none h0 hW2 (fun r e => by cases e), iterW_b0, iterW_b1, fun b c hb => by
    obtain ⟨T, fz, e⟩ := hs b c hb
    exact ⟨T, fz, (hW2.block b (Array.getElem?_eq_some_iff.1 e).1 (by simp)).trans e⟩⟩
  have hc1 : ((W.alloc (.cells #[Value.func (.yield ly) #[] #[]] 100)).alloc (.cells #[.nilFunc] 101)).cell? ⟨W.heap.size + 1, 0, none⟩ = some .nilFunc := by
    have := (Boxed.new (W.alloc (.cells #[Value.func (.yield ly) #[] #[]] 100)) 101 .nilFunc).cell
    rwa [World.size_alloc] at this
  have hf1 : ((W.alloc (.cells #[Value.func (.yield ly) #[] #[]] 100)).alloc (.cells #[.nilFunc] 101)).frozen? ⟨W.heap.size + 1, 0, none⟩ = false := by
    have := (Boxed.new (W.alloc (.cells #[Value.func (.yield ly) #[] #[]] 100)) 101 .nilFunc).frozen
    rwa [World.size_alloc] at this
  cases hv3 with
  | @pel _ b3 o3 c3 g1 g2 g3 =>
  have hm2 : (iterW ly v1 v2 W).cell? ⟨b3, o3, none⟩ = some (.int .i64 12) := by
    obtain ⟨T, fz, e⟩ := hJ0.2.2.2 b3 c3 g1
    have g4 : (c3.toList.drop o3).take 1 = [Value.int .i64 12] := by
      have := g3
      rw [show PV.size (.v (.int .i64 12)) = 1 from rfl] at this
      generalize (c3.toList.drop o3).take 1 = q at this
      cases this; rfl
    have := cell_at (off := o3) (n := 1) e g2 0 (.int .i64 12) (by rw [g4]; rfl)
    simpa [Addr.add] using this
  have hm3 : (((W.alloc (.cells #[Value.func (.yield ly) #[] #[]] 100)).alloc (.cells #[.nilFunc] 101)).setCell ⟨W.heap.size + 1, 0, none⟩ (.func (.func 50) #[] #[v1, .pointer (some ⟨W.heap.size, 0, none⟩), v2, .pointer (some ⟨W.heap.size + 1, 0, none⟩)])).cell? ⟨b3, o3, none⟩ = some (.int .i64 12) := hm2
  show Calls Try.prog 49 #[.func (.yield ly) #[] #[], v1, v2, .pointer (some ⟨b3, o3, none⟩)] W _
  go_enter Try.func49, Try.ntmps49
  go_wp2
  have hst : (store ⟨W.heap.size + 1, 0, none⟩ (.func (.func 50) #[] #[v1, .pointer (some ⟨W.heap.size, 0, none⟩), v2, .pointer (some ⟨W.heap.size + 1, 0, none⟩)])).run Try.prog ((W.alloc (.cells #[Value.func (.yield ly) #[] #[]] 100)).alloc (.cells #[.nilFunc] 101)) = .ok () (iterW ly v1 v2 W) := by
    rw [← iterW_eq]
    rw [run_store _ _ _ _ _ rfl, hc1, hf1]
    rfl
  rw [hst]
  simp only [Result.andThen_ok]
  go_wp2
  have fin : ∀ {e : Exit} {N : Nat} {F0 : PHeap} {E0 : Env} {G0 : World → Prop} {a : Act} {w : World}, (e = .ret ∨ e = .normal) → QS N F0 E0 G0 a w → (G0 w → (∃ xs, xs = allW l ∧ J xs w) ∨ (∃ pre, pre <+: allW l ∧ Jx pre w)) →
      bodyPost Try.prog Try.f49 (fun e W' => (∃ v, e = .returned v) ∧ ((∃ xs, xs = allW l ∧ J xs W') ∨ (∃ pre, pre <+: allW l ∧ Jx pre W'))) e a w := by
    intro e N F0 E0 G0 a w he hS hG
    obtain ⟨hD, v, h1, h2⟩ := retq_of (P := Try.prog) (rs := #[]) (vc := []) (ds := []) (R := fun e W' => (∃ v, e = .returned v) ∧ ((∃ xs, xs = allW l ∧ J xs W') ∨ (∃ pre, pre <+: allW l ∧ Jx pre W'))) (by kernel_rfl) trivial hS (fun v _ hg => ⟨⟨v, rfl⟩, hG hg⟩)
    rcases he with rfl | rfl
    · exact ⟨hD, v, h1 Try.f49 rfl, h2⟩
    · exact ⟨hD, v, h1 Try.f49 rfl, h2⟩
  refine tq_loop (P := Try.prog) (N := 18) (F := iterF F ly v1 v2 W) (E := [(5, none, .p (.pel (.v (iterX v1 v2 W)))), (9, none, vint .i64 13), (10, none, vint .i64 ((0 : Nat) : Int))]) (G := iterJ F J ly v1 v2 W []) (α := Nat)
    (fun c => [(5, none, .p (.pel (.v (iterX v1 v2 W)))), (9, none, vint .i64 13), (10, none, vint .i64 (c : Int))]) (fun c => iterJ F J ly v1 v2 W (allC l c)) (fun c => c ≤ 13) (fun c => 13 - c) 0 (by omega) (fun _ _ h => h) ?_ _ _ ⟨?_, rfl, rfl, hI.js _ _ hJ0, hJ0⟩
  · intro c hc
    refine tq_seq ?_
    refine tq_reg (vc := []) (E' := [(5, none, .p (.pel (.v (iterX v1 v2 W)))), (9, none, vint .i64 13), (10, none, vint .i64 (c : Int)), (11, none, vbool (decide ((c : Int) < 13)))]) [] [5, 9, 10, 11] (by kernel_rfl) trivial ?_
    refine tq_then ?_
    refine tq_seq ?_
    refine tq_condP (decide ((c : Int) < 13)) ((c : Int) < 13) (by simp) (by kernel_rfl) (fun h1 => ?_) (fun h1 => ?_)
    · refine tq_skip ?_
      refine tq_then ?_
      refine tq_seq ?_
      refine tq_block ?_
      refine tq_seq ?_
      refine tq_reg (vc := []) (E' := [(5, none, .p (.pel (.v (iterX v1 v2 W)))), (6, none, vint .i64 (c : Int)), (9, none, vint .i64 13), (10, none, vint .i64 (c : Int))]) [] [5, 6, 9, 10] (by kernel_rfl) trivial ?_
      refine tq_then ?_
      refine tq_seq ?_
      obtain ⟨y2, hy2⟩ := allC_mono (l := l) (c := c + 1) (d := 13) (by omega)
      have hN : (allC l c).length + (extW l c 0 []).length ≤ (allW l).length := by
        unfold allW
        rw [hy2, allC]
        simp
      refine tq_callC (f := 50) (vc := []) (Gt := iterJ F J ly v1 v2 W (allC l (c + 1))) (Gf := fun w => ∃ z, z <+: extW l c 0 [] ∧ Jx (allC l c ++ z) w) (E1 := [(5, none, .p (.pel (.v (iterX v1 v2 W)))), (9, none, vint .i64 13), (10, none, vint .i64 (c : Int)), (13, none, .p (.v (iterX v1 v2 W))), (14, none, vint .i64 (c : Int))])
        (EA := [(5, none, .p (.pel (.v (iterX v1 v2 W)))), (9, none, vint .i64 13), (10, none, vint .i64 (c : Int)), (16, none, vbool false)]) (EB := [(16, none, vbool true), (15, none, vbool false)]) 2 [5, 9, 10, 13, 14] [5, 9, 10, 16] (by kernel_rfl) trivial rfl rfl rfl rfl (by kernel_rfl) (by kernel_rfl) (by kernel_rfl) (by kernel_rfl) ?_ ?_ ?_
      · intro a_ w_ hS
        refine ⟨(iterVs v1 v2 W).toArray, eval_v (x := iterX v1 v2 W) hS.e (by kernel_rfl), ?_⟩
        have e1 := eval_v (x := .int .i64 (c : Int)) (t := 14) hS.e (by kernel_rfl)
        rw [show (#[Operand.const (.int .i64 0), Operand.tmp 14, Operand.const (.string { data := #[] })].map a_.eval) = #[.int .i64 ((0 : Nat) : Int), a_.eval (.tmp 14), .string ⟨List.toArray []⟩] from by simp [Act.eval], e1]
        have hc := ext_ok l hok (iterF F ly v1 v2 W) (KpB bo B1) (iterJ F J ly v1 v2 W) Jx _ _ ly hI (iterVs v1 v2 W) rfl (fun i p v h1 h2 => by
          match i with
          | 0 => cases h1; cases h2; exact hv1.mono fun b c hb => iterF_old hs hb
          | 1 =>
            cases h1; cases h2
            exact .pel (c := #[iterY ly]) (by simp [iterF]) (by simp [PV.size]) (.v rfl)
          | 2 => cases h1; cases h2; exact hv2.mono fun b c hb => iterF_old hs hb
          | 3 =>
            cases h1; cases h2
            exact .pel (c := #[iterX v1 v2 W]) (by simp [iterF]) (by simp [PV.size]) (.v rfl)
          | i + 4 => simp [capsX] at h1) c 0 [] (allC l c) w_ (by omega) (by omega) (by simp; omega) hN hS.s hS.g
        unfold ExtP at hc
        refine hc.mono ?_
        rintro e w' ⟨r, rfl, k1, k2⟩
        exact ⟨r, rfl, fun h => ⟨(k1 h).1.1, (k1 h).2⟩, k2⟩
      · refine tq_then ?_
        refine tq_cond false (by kernel_rfl) (fun h => ?_) (fun h => ?_)
        · cases h
        · refine tq_skip ?_
          refine qin_n ?_
          refine tq_then ?_
          refine tq_reg (vc := [IntKind.wrap .i64 ((c : Int) + 1) = ((c + 1 : Nat) : Int)]) (E' := [(5, none, .p (.pel (.v (iterX v1 v2 W)))), (9, none, vint .i64 13), (10, none, vint .i64 ((c + 1 : Nat) : Int))]) [(0, vint .i64 ((c + 1 : Nat) : Int))] [5, 9, 10] (by kernel_rfl) (wr64 (by omega) (by omega) (by omega)) ?_
          exact qlp_end (c + 1) (by show c + 1 ≤ 13; omega) (by show 13 - (c + 1) < 13 - c; omega) (fun _ _ h => h)
      · refine tq_then ?_
        refine tq_cond true (by kernel_rfl) (fun h => ?_) (fun h => ?_)
        · refine tq_ret fun a_ w_ hS => ?_
          exact fin (.inl rfl) hS fun ⟨z, ⟨y, hz⟩, hj⟩ => .inr ⟨allC l c ++ z, ⟨y ++ y2, by unfold allW; rw [hy2, allC, ← hz]; simp⟩, hj⟩
        · cases h
    · refine tq_exit ?_
      refine tqh_e ?_
      refine tqh_e ?_
      refine qin_hit ?_
      exact fun a_ w_ hS => fin (.inr rfl) hS fun hg => .inl ⟨allW l, rfl, by obtain rfl : c = 13 := (by omega); exact hg.1⟩
  · refine sle_cons rfl (.one rfl (.p (.pel (c := #[iterX v1 v2 W]) (by simp [iterF]) (by simp [PV.size]) (.v rfl)))) (sle_cons rfl relV_int (sle_cons rfl relV_int sle_nil0))
end
end Go.Proofs.Ytjnjmnfacaakfaa
namespace Go.Proofs.Ytjnjmnfacaakfaa
open Go.Eng Go.RowKit Go.Shelf
theorem fn3 {F : PHeap} {a b c : PV} {vs : List Value} (h : RelD F noG (.agg [.p (.pel a), .p (.pel b), .p (.pel c)]) vs) : ∃ v1 v2 v3, vs = [v1, v2, v3] ∧ RelP F (.pel a) [v1] ∧ RelP F (.pel b) [v2] ∧ RelP F (.pel c) [v3] := by
  have one : ∀ {x : PV} {cs : List Value}, RelD F noG (.p (.pel x)) cs → ∃ v, cs = [v] ∧ RelP F (.pel x) [v] := fun h => by
    cases h with
    | p h => cases h with
      | pel a1 a2 a3 => exact ⟨_, rfl, .pel a1 a2 a3⟩
  cases h with
  | cons h1 h =>
    cases h with
    | cons h2 h =>
      cases h with
      | cons h3 h =>
        cases h with
        | nil =>
          obtain ⟨v1, rfl, q1⟩ := one h1
          obtain ⟨v2, rfl, q2⟩ := one h2
          obtain ⟨v3, rfl, q3⟩ := one h3
          exact ⟨v1, v2, v3, rfl, q1, q2, q3⟩
theorem appendedK {W w1 : World} {bo B1 n0 : Nat} {v v' : Value} {k m : Nat} {xs ys : List Value} {tmp : Obj} (hv : Boxed W bo 28 v) (hrow : W.ownsRow B1 9 1 v k xs) (hBW : B1 ≤ W.heap.size) (hbo : bo < B1) (hn0 : n0 ≤ bo)
    (hown' : w1.ownsRow B1 9 1 v' m ys) (hgrow : (W.alloc tmp).grownBy w1 v.ownBlock) :
    Boxed w1 bo 28 v ∧ Boxed (w1.setCell ⟨bo, 0, none⟩ v') bo 28 v' ∧ (w1.setCell ⟨bo, 0, none⟩ v').ownsRow B1 9 1 v' m ys ∧ KeepsOthers W (w1.setCell ⟨bo, 0, none⟩ v') ∧ KpB bo B1 W (w1.setCell ⟨bo, 0, none⟩ v') ∧ Below n0 W (w1.setCell ⟨bo, 0, none⟩ v') := by
  have hv1 : Boxed w1 bo 28 v := (hv.alloc tmp).kept hgrow (hv.not_row (by decide) hrow)
  refine ⟨hv1, hv1.set v', hown'.kept (grownBy_setCell' w1 bo v') (.inr (hv1.not_row (by decide) hown').symm), ?_, ?_, ?_⟩
  · refine ((KeepsOthers.alloc W tmp).trans (KeepsOthers.of_grownBy hgrow fun j o ej hj => ?_)).trans (KeepsOthers.setCell _ _ _)
    rcases (hrow.alloc tmp).2 with ⟨rfl, _⟩ | ⟨g, cap, cur, rfl, _, hgb, _⟩
    · simp [Value.ownBlock] at ej
    · obtain rfl : g = j := by simpa [Value.ownBlock] using ej
      rw [hgb] at hj; cases hj; rfl
  · have hsz : W.heap.size ≤ w1.heap.size := by have := hgrow.size; simp at this; omega
    have hg2 := grownBy_setCell' w1 bo v'
    refine ⟨Nat.le_trans hsz hg2.size, fun i c T fz hi hne hor => ?_⟩
    have hlt : i < W.heap.size := (Array.getElem?_eq_some_iff.1 hi).1
    have e1 : (W.alloc tmp).heap[i]? = some (.cells c T fz) := (heap_alloc_old W tmp hlt).trans hi
    have e2 : w1.heap[i]? = (W.alloc tmp).heap[i]? := hgrow.block i (by simp; omega) (fun e => by
      rcases hrow.2 with ⟨rfl, _⟩ | ⟨g, cap, cur, rfl, hb, hgb, _⟩
      · simp [Value.ownBlock] at e
      · obtain rfl : i = g := by simpa [Value.ownBlock] using e
        rw [hgb] at hi
        cases hi
        rcases hor with h | h
        · omega
        · exact h rfl)
    exact (hg2.block i (by omega) (by simpa using hne)).trans (e2.trans e1)
  · refine (((Below.refl n0 W).alloc (by omega) tmp).grown hgrow (by simp; omega) fun j ej => ?_).setCell (p := ⟨bo, 0, none⟩) hn0 v'
    rcases hrow.2 with ⟨rfl, _⟩ | ⟨g, cap, cur, rfl, hb, _, _⟩
    · simp [Value.ownBlock] at ej
    · obtain rfl : g = j := by simpa [Value.ownBlock] using ej
      omega
def sV (x : List UInt8) : Value := .string ⟨x.toArray⟩
theorem info9 : (Try.prog.info? 9).map (fun i => (i.zero, i.size, i.bytes)) = some (some (.string ⟨#[]⟩), 1, 16) := by kernel_rfl
theorem underlying28 : Try.prog.underlying 28 = some (.slice 9) := by kernel_rfl
theorem first_fin {w W : World} {F : PHeap} {B1 : Nat} {v : Value} {pre : List (List UInt8)} (hs : Eng.Sub F w) (hB : Below w.heap.size w W) (hB1 : w.heap.size ≤ B1) (hrow : W.ownsRow B1 9 1 v pre.length (pre.map sV)) :
    ∃ F', Eng.Sub F' W ∧ (∀ k, k < w.heap.size → F' k = F k) ∧ Grew w W ∧ RelV F' noG (.p (eL eS 1 [] pre)) v := by
  have hsW : Eng.Sub F W := fun b c hb => by
    obtain ⟨T, fz, e⟩ := hs b c hb
    exact ⟨T, fz, (hB.block b (Array.getElem?_eq_some_iff.1 e).1).trans e⟩
  have hg := Grew.of_below hB
  rcases hrow.2 with ⟨rfl, h0⟩ | ⟨g, cap, cur, rfl, h1, h2, h3⟩
  · exact ⟨F, hsW, fun _ _ => rfl, hg, by
      have : pre = [] := List.length_eq_zero_iff.1 (by simpa using h0)
      subst this
      exact .one rfl (.p .lst0)⟩
  · obtain ⟨h3, h4, h5, h6⟩ := h3
    have hF : ∀ b c, F b = some c → (if b = g then some cur else F b) = some c := fun b c hb => by
      rw [if_neg (fun e => by obtain ⟨T, fz, e1⟩ := hs b c hb; have := (Array.getElem?_eq_some_iff.1 e1).1; omega)]; exact hb
    refine ⟨fun b => if b = g then some cur else F b, fun b c hb => ?_, fun k hk => ?_, hg, .one rfl (.p (.lst (b := g) (off := 0) (c := cur) (by simp) h3 (by omega) fun i hi => ?_))⟩
    · simp only at hb
      split at hb
      · rename_i e; cases hb; rw [e]; exact ⟨_, _, h2⟩
      · exact hsW b c hb
    · simp only
      rw [if_neg (by omega)]
    · have e1 : (cur.toList.drop (0 + i * 1)).take 1 = [sV (pre.getD i [])] := by
        have h7 : cur.toList[i]? = some (sV (pre.getD i [])) := by
          have := congrArg (fun l => l[i]?) h6
          simp only [List.getElem?_take, List.getElem?_map] at this
          rw [if_pos (by omega)] at this
          rw [this]
          simp [List.getD, List.getElem?_eq_getElem hi]
        obtain ⟨hlt, h8⟩ := List.getElem?_eq_some_iff.1 h7
        rw [show 0 + i * 1 = i by omega, List.drop_eq_getElem_cons hlt, h8]
        rfl
      rw [e1]
      exact .s
attribute [local go_sem] Oper.semAt_some
theorem cell_b {W : World} {B : Nat} {c : Array Value} {t : TypeId} (h : W.heap[B]? = some (.cells c t (0, 0))) {j : Nat} {v : Value} (hj : c[j]? = some v) : W.cell? ⟨B, j, none⟩ = some v := by
  have hlt := (Array.getElem?_eq_some_iff.1 hj).1
  simp [World.cell?, h, hj]
set_option maxRecDepth 100000 in
set_option maxHeartbeats 2000000 in
theorem First_go (l : Lang) (hok : check l = 0) (most : Int) (hm1 : 1 ≤ most) (F : PHeap) (w : World) (hs : Sub F w) (sa sn : Value) (hl : RelP F (eLang l) [sa, sn]) :
    Calls Try.prog 14 #[.agg #[sa, sn], .int .i64 most] w fun e w' => ∃ v F', e = .returned v ∧ Sub F' w' ∧ (∀ k, k < w.heap.size → F' k = F k) ∧ Grew w w' ∧ RelV F' noG (.p (eL eS 1 [] ((allW l).take (min most 100).toNat))) v := by
  refine (callsIn_wide (n := 3)).1 ?_
  refine callsIn_of_wp_marks Try.func14 rfl trivial ?_ rfl
  simp only [Try.ntmps14, List.size_toArray, List.length_cons, List.length_nil, Nat.reduceAdd, Nat.reduceSub, Array.replicate_succ, Array.replicate_zero, List.push_toArray, List.append_toArray, List.nil_append, List.cons_append]
  have hb0 : (w.alloc (.cells #[sa, sn] 32)).heap[w.heap.size]? = some (.cells #[sa, sn] 32 (0, 0)) := World.alloc_heap_new w _
  have hA : ((w.alloc (.cells #[sa, sn] 32)).alloc (.cells #[.int .i64 most] 3)).heap[w.heap.size]? = some (.cells #[sa, sn] 32 (0, 0)) := by
    rw [heap_alloc_old _ _ (by simp)]; exact hb0
  have hc0 := cell_b hA (j := 0) rfl
  have hc1 := cell_b hA (j := 1) rfl
  have hA1 : ((w.alloc (.cells #[sa, sn] 32)).alloc (.cells #[.int .i64 most] 3)).heap[w.heap.size + 1]? = some (.cells #[.int .i64 most] 3 (0, 0)) := by
    have := World.alloc_heap_new (w.alloc (.cells #[sa, sn] 32)) (.cells #[.int .i64 most] 3)
    rwa [World.size_alloc] at this
  have hgA : Grew w ((w.alloc (.cells #[sa, sn] 32)).alloc (.cells #[.int .i64 most] 3)) := (grew_alloc w _).trans (grew_alloc _ _)
  have hsA : Eng.Sub F ((w.alloc (.cells #[sa, sn] 32)).alloc (.cells #[.int .i64 most] 3)) := fun b c hb => by
    obtain ⟨T, fz, e⟩ := hs b c hb
    exact ⟨T, fz, (hgA.block b (Array.getElem?_eq_some_iff.1 e).1).trans e⟩
  have hrl : RelV F noG (.p (eLang l)) (.agg #[sa, sn]) := .many (cs := [sa, sn]) rfl (.p hl)
  have hck := check_ok l F _ [.agg #[sa, sn]] hsA rfl (fun i p v h1 h2 => by
    match i with
    | 0 => cases h1; cases h2; exact hrl
    | i + 1 => simp at h1)
  have hsz : ((w.alloc (.cells #[sa, sn] 32)).alloc (.cells #[.int .i64 most] 3)).heap.size = w.heap.size + 2 := by simp
  generalize hWA : (w.alloc (.cells #[sa, sn] 32)).alloc (.cells #[.int .i64 most] 3) = WA at *
  gi_wp2
  refine ⟨trivial, (callsIn_wide.2 hck).mono ?_⟩
  rintro e w1 ⟨v, F1, rfl, s1, x1, g1, r1⟩
  rw [hok] at r1
  obtain rfl := asInt_val (k := .i64) (n := 0) rfl r1
  have hB0 : w1.heap[w.heap.size]? = some (.cells #[sa, sn] 32 (0, 0)) := (g1.block _ (by omega)).trans hA
  have hB1 : w1.heap[w.heap.size + 1]? = some (.cells #[.int .i64 most] 3 (0, 0)) := (g1.block _ (by omega)).trans hA1
  have hm := cell_b hB1 (j := 0) rfl
  have hsz1 : w.heap.size + 2 ≤ w1.heap.size := by have := g1.size; omega
  have hC0 : (w1.alloc (.cells #[.slice none 0 0] 28)).heap[w.heap.size]? = some (.cells #[sa, sn] 32 (0, 0)) := (heap_alloc_old _ _ (by omega)).trans hB0
  have hd0 := cell_b hC0 (j := 0) rfl
  have hd1 := cell_b hC0 (j := 1) rfl
  gi_wp2
  have hg3 : Grew w1 (w1.alloc (.cells #[.slice none 0 0] 28)) := grew_alloc w1 _
  have s1' : Eng.Sub F1 (w1.alloc (.cells #[.slice none 0 0] 28)) := fun b c hb => by
    obtain ⟨T, fz, e⟩ := s1 b c hb
    exact ⟨T, fz, (hg3.block b (Array.getElem?_eq_some_iff.1 e).1).trans e⟩
  have hFF1 : ∀ b c, F b = some c → F1 b = some c := fun b c hb => by
    rw [x1 b (sub_lt (slh_base (P := Try.prog) (N := 0) hsA) hb)]; exact hb
  have hwd := words_ok l hok F1 _ [.agg #[sa, sn], .int .i64 12] s1' rfl (fun i p v h1 h2 => by
    match i with
    | 0 => cases h1; cases h2; exact .many (cs := [sa, sn]) rfl (.p (hl.mono hFF1))
    | 1 => cases h1; cases h2; exact relV_int
    | i + 2 => simp at h1)
  refine ⟨trivial, (callsIn_wide.2 hwd).mono ?_⟩
  rintro e w2 ⟨v, F2, rfl, s2, x2, g2, r2⟩
  obtain ⟨v1, v2, v3, rfl, q1, q2, q3⟩ : ∃ v1 v2 v3, v = .func (.func 49) #[] #[v1, v2, v3] ∧ RelP F2 (.pel (eL (eL eB 1 false) 1 [] (leadsL l 12))) [v1] ∧ RelP F2 (.pel (eLang l)) [v2] ∧ RelP F2 (.pel (.v (.int .i64 12))) [v3] := by
    cases r2 with
    | one _ r2 =>
      cases r2 with
      | fn r2 => obtain ⟨v1, v2, v3, rfl, q⟩ := fn3 r2; exact ⟨v1, v2, v3, rfl, q⟩
    | many hm => cases hm
  gi_wp2
  obtain ⟨i0, hi, hz0, hz1, hz2⟩ := info_parts info9
  have hsz3 : (w1.alloc (.cells #[.slice none 0 0] 28)).heap.size = w1.heap.size + 1 := by simp
  have hg2s := g2.size
  have hbo : w1.heap.size < w2.heap.size := by omega
  have hOut : Boxed w2 w1.heap.size 28 (.slice none 0 0) := (g2.block _ (by omega)).trans (World.alloc_heap_new w1 _)
  have hMost : Boxed w2 (w.heap.size + 1) 3 (.int .i64 most) := (g2.block _ (by omega)).trans ((heap_alloc_old _ _ (by omega)).trans hB1)
  have hgw : Grew w w2 := (((hWA ▸ hgA : Grew w WA).trans g1).trans hg3).trans g2
  have hBel : Below w.heap.size w w2 := hgw.below
  have hF2 : ∀ b c, F2 b = some c → b ≠ w1.heap.size ∧ b < w2.heap.size := fun b c hb => by
    refine ⟨fun e => ?_, sub_lt (slh_base (P := Try.prog) (N := 0) s2) hb⟩
    subst e
    have h1 := x2 w1.heap.size (by omega)
    rw [h1] at hb
    have := sub_lt (slh_base (P := Try.prog) (N := 0) s1) hb
    omega
  obtain ⟨mm, hmm⟩ : ∃ mm, mm = (min most 100).toNat := ⟨_, rfl⟩
  refine wpIn_rangeFunc_ownF (encs := fun x : List UInt8 => #[.string ⟨x.toArray⟩]) rfl (by omega) (gf := 49) (lb := #[v1, v2, v3]) rfl trivial (enters_of Try.func49 (by kernel_rfl) rfl)
    (words1_ok l hok F2 w1.heap.size w2.heap.size _ v1 v2 v3 w2 s2 rfl hbo hF2 q1 q2 q3) (fun h k => h.trans k) ?hKb (Below.refl _ _) (fun _ => rfl)
    (fun pre W => ((∃ v, Boxed W w1.heap.size 28 v ∧ W.ownsRow w2.heap.size 9 1 v pre.length (pre.map sV) ∧ True) ∧ Boxed W (w.heap.size + 1) 3 (.int .i64 most)) ∧ Below w.heap.size w W ∧ w2.heap.size ≤ W.heap.size ∧ pre.length < mm)
    (fun c pre W => ((∃ v, Boxed W w1.heap.size 28 v ∧ W.ownsRow w2.heap.size 9 1 v pre.length (pre.map sV) ∧ True) ∧ Boxed W (w.heap.size + 1) 3 (.int .i64 most)) ∧ Below w.heap.size w W ∧ w2.heap.size ≤ W.heap.size ∧ (pre.length = mm ∧ c = .exit 0))
    ?hI ?hIx ⟨⟨⟨_, hOut, World.ownsRow_nil _ _ _ _, trivial⟩, hMost⟩, hBel, Nat.le_refl _, by simp; omega⟩
    (fun x => { tmps := #[.agg #[sa, sn], .int .i64 most, .pointer (some ⟨w.heap.size, 0, none⟩), .pointer (some ⟨w.heap.size + 1, 0, none⟩), .slice none 0 0, .pointer (some ⟨w1.heap.size, 0, none⟩), .string ⟨x.toArray⟩, .agg #[sa, sn], .int .i64 0, .bool false, .bool false, .int .i64 most,
      .bool (decide (most < 1)), .bool (decide (most < 1)), .agg #[sa, sn], .func (.func 49) #[] #[v1, v2, v3], .string ⟨x.toArray⟩, undef, undef, undef, undef, undef, undef, undef, undef, undef, undef], defers := [] }) ?assign ?body ?done ?stop
  case hKb =>
    intro A k o o' hk ho hoc how
    refine ⟨by simp [World.putObj], fun i c T fz hi _ _ => ?_⟩
    exact (World.putObj_heap_other (fun e => by subst e; rw [hi] at ho; cases ho; cases hoc)).trans hi
  case hI =>
    rintro pre A A' row ⟨⟨h1, h2⟩, h3, h4, h5⟩ hg hr
    refine ⟨⟨holdsRow_own w2.heap.size w1.heap.size 28 9 1 (fun pre : List (List UInt8) => pre.length) (fun pre => pre.map sV) (fun _ _ => True) pre A A' row h1 hg (fun r e => (hr r e).2), Boxed.kept h2 hg (fun e => ?_)⟩, ownFrom_below (w₀ := w) (β := Unit) (Nat.le_refl _) (by omega) () A A' row h3 hg hr, Nat.le_trans h4 hg.size, h5⟩
    obtain ⟨_, o, ho, hoc⟩ := hr _ e.symm
    rw [show A.heap[w.heap.size + 1]? = _ from h2] at ho
    cases ho
    cases hoc
  case hIx =>
    intro c
    rintro pre A A' row ⟨⟨h1, h2⟩, h3, h4, h5⟩ hg hr
    refine ⟨⟨holdsRow_own w2.heap.size w1.heap.size 28 9 1 (fun pre : List (List UInt8) => pre.length) (fun pre => pre.map sV) (fun _ _ => True) pre A A' row h1 hg (fun r e => (hr r e).2), Boxed.kept h2 hg (fun e => ?_)⟩, ownFrom_below (w₀ := w) (β := Unit) (Nat.le_refl _) (by omega) () A A' row h3 hg hr, Nat.le_trans h4 hg.size, h5⟩
    obtain ⟨_, o, ho, hoc⟩ := hr _ e.symm
    rw [show A.heap[w.heap.size + 1]? = _ from h2] at ho
    cases ho
    cases hoc
  case assign =>
    intro ly x W K hK
    gi_wp2
    exact hK
  case body =>
    rintro ly pre x W ⟨⟨⟨v, hv, hrow, _⟩, hMo⟩, hB, hW2, hlt⟩ _
    have hc := hv.cell
    have hmc := hMo.cell
    have h100 : pre.length < 100 := by clear hc hmc; omega
    have hb1 : pre.length + 1 ≤ maxLen := Nat.le_trans (show pre.length + 1 ≤ 100 by omega) (Nat.le_of_ble_eq_true rfl)
    have hb2 : (pre.length + 1) * 16 ≤ 140737488355328 := by omega
    have hb3 : w2.heap.size ≤ (W.alloc (.cells #[.string ⟨x.toArray⟩] 9)).heap.size := by rw [World.size_alloc]; omega
    have hwb : w.heap.size ≤ w1.heap.size := by omega
    have hmne : w.heap.size + 1 ≠ w1.heap.size := by omega
    have hmlt : w.heap.size + 1 < w2.heap.size := by omega
    gi_wp2_with (gi_at_builtin; refine wpListIn_append_own _ rfl _ _ 28 rfl w2.heap.size 9 i0 (.string ⟨#[]⟩) 1 16 underlying28 hi hz0 hz1 hz2 rfl (by decide) _ _ _ rfl (hrow.alloc _) ⟨W.heap.size, 0, none⟩ 1 1 [.string ⟨x.toArray⟩] rfl rfl (cell_one_new _ _ _) (by simp [Value.oneCell']) hb1 hb2 hb3 ?_; intro v' w1' hown' hgrow _; obtain ⟨g', cap', rfl⟩ := ownsRow_succ hown'; obtain ⟨hv1, hv2, hr2, hk2, hKp, hb2'⟩ := appendedK (n0 := w.heap.size) hv hrow hW2 hbo hwb hown' hgrow; have hc1 := hv1.cell; have hf1 := hv1.frozen; have hmo2 := hKp.2 _ _ _ _ hMo hmne (.inl hmlt); have hmc2 := Boxed.cell (B := w.heap.size + 1) (t := 3) (v := .int .i64 most) hmo2)
    · refine ⟨hk2, ⟨⟨_, hv2, by simpa [sV] using hr2, trivial⟩, hmo2⟩, hB.trans hb2', Nat.le_trans hW2 hKp.1, ?_, rfl⟩
      have he : ((pre.length : Int) + 1 == min most 100) = true := by assumption
      rw [beq_iff_eq] at he
      simp only [List.length_append, List.length_singleton]
      omega
    · refine ⟨hk2, hKp, ⟨⟨_, hv2, by simpa [sV] using hr2, trivial⟩, hmo2⟩, hB.trans hb2', Nat.le_trans hW2 hKp.1, ?_⟩
      have he : ((pre.length : Int) + 1 == min most 100) = false := by assumption
      rw [beq_eq_false_iff_ne] at he
      simp only [List.length_append, List.length_singleton]
      omega
  case done =>
    rintro D xs W hD rfl ⟨⟨⟨v, hv, hrow, _⟩, _⟩, hB, hW2, hlt⟩ hK
    have hc := hv.cell
    gi_wp2
    refine ⟨by simp, .inl ⟨_, _, rfl, run_takeDeferred hK, ?_⟩⟩
    obtain ⟨F', y1, y2, y3, y4⟩ := first_fin hs (hB.trans (belowK_b (w := w2) (by omega) W D _ (.deferred none) hD hK rfl rfl)) (by omega) (ownsRow_putObj hrow (.deferred none) hK rfl)
    refine ⟨_, results_tmp rfl _ _ _, _, F', rfl, y1, y2, y3, ?_⟩
    rw [List.take_of_length_le (by omega)]
    exact y4
  case stop =>
    rintro D c pre W hD hpre ⟨⟨⟨v, hv, hrow, _⟩, _⟩, hB, hW2, hlen, rfl⟩ hK
    have hc := hv.cell
    gi_wp2
    refine ⟨by simp, .inl ⟨_, _, rfl, run_takeDeferred hK, ?_⟩⟩
    obtain ⟨F', y1, y2, y3, y4⟩ := first_fin hs (hB.trans (belowK_b (w := w2) (by omega) W D _ (.deferred none) hD hK rfl rfl)) (by omega) (ownsRow_putObj hrow (.deferred none) hK rfl)
    refine ⟨_, results_tmp rfl _ _ _, _, F', rfl, y1, y2, y3, ?_⟩
    rw [← hmm, ← hlen, ← List.prefix_iff_eq_take.1 hpre]
    exact y4
end Go.Proofs.Ytjnjmnfacaakfaa
namespace Go.Proofs.Ytjnjmnfacaakfaa
open Go.Eng
theorem firstNone_ok (l : Lang) (most : Int) (hbad : (check l ≠ 0) ∨ (most < 1)) : Pure Try.prog 14 [eLang l, .v (.int .i64 most)] (.p ((eL eS 1 []) ([] : List (List UInt8)))) := by
  refine pure_of (fn := Try.f14) Try.func14 rfl rfl fun F_ W0_ => ?_
  refine tr_seq ?_
  refine tr_r (vc := []) (E' := [(2, none, .ref 0 []), (3, none, .ref 1 [])]) (H' := [.box (.p (eLang l)), .box (vint .i64 most)]) [] [] [2, 3] (by kernel_rfl) ?_ ?_
  · exact trivial
  refine tr_then (tr_seq ?_)
  refine tr_seq ?_
  refine tr_r (vc := [Pure Try.prog 20 [eLang l] (vint .i64 (check l)), (!((check l) != 0)) = true → (!((check l) != 0)) = true, (!((check l) != 0)) = true → (!((check l) != 0)) = true]) (E' := [(2, none, .ref 0 []), (3, none, .ref 1 []), (13, none, vbool (((check l) != 0) || (decide (most < 1))))]) (H' := [.box (.p (eLang l)), .box (vint .i64 most)]) [] [(1, vint .i64 (check l))] [2, 3, 13] (by kernel_rfl) ?_ ?_
  · refine al ?_ (al ?_ (al ?_ (trivial)))
    · exact check_ok _
    · exact id
    · exact id
  refine tr_then ?_
  refine tr_condP (((check l) != 0) || (decide (most < 1))) (((check l) ≠ 0) ∨ (most < 1)) (by simp) (by kernel_rfl) (fun hc1 => ?_) (fun hc1 => ?_)
  · skip
    refine tr_seq ?_
    refine tr_r (vc := []) (E' := [(4, none, .p (.v (.slice none 0 0)))]) (H' := [.box (.p (eLang l)), .box (vint .i64 most)]) [] [] [4] (by kernel_rfl) ?_ ?_
    · exact trivial
    refine tr_then ?_
    refine tr_pre (E' := [(4, none, .p (.v (.slice none 0 0)))]) (H' := []) (fun A_ W_ hS => sl_weak (vc := []) [] [4] (by kernel_rfl) trivial hS) ?_
    refine tr_pre (E' := (4, none, .p ((eL eS 1 []) ([] : List (List UInt8)))) :: [(4, none, .p (.v (.slice none 0 0)))]) (H' := []) (fun A_ W_ hS => sl_set_imp (d := .p (.v (.slice none 0 0))) 4 (.p ((eL eS 1 []) ([] : List (List UInt8)))) (by kernel_rfl) ?_ hS) ?_
    · refine imp_nil ([] : List (List UInt8)) ?_
      first | rfl | (simp; done) | omega | (simp_all; done) | grind
    refine tr_pre (E' := [(4, none, .p ((eL eS 1 []) ([] : List (List UInt8))))]) (H' := []) (fun A_ W_ hS => sl_proj (ts := [4]) (by kernel_rfl) hS) ?_
    exact tr_return' (vc := []) (ds := [.p ((eL eS 1 []) ([] : List (List UInt8)))]) (by kernel_rfl) trivial (by kernel_rfl) (fun _ _ h => h)
  · exact absurd (hbad) hc1
def firstS (l : Lang) (most : Int) : List (List UInt8) := if (check l ≠ 0) ∨ (most < 1) then [] else (allW l).take (min most 100).toNat
theorem First_ok (l : Lang) (most : Int) : Pure Try.prog 14 [eLang l, .v (.int .i64 most)] (.p (eL eS 1 [] (firstS l most))) := by
  unfold firstS
  by_cases h : (check l ≠ 0) ∨ (most < 1)
  · rw [if_pos h]; exact firstNone_ok l most h
  · rw [if_neg h]
    rw [not_or, Classical.not_not] at h
    intro F w vs hs hlen hrel
    match vs, hlen with
    | [a, b], _ =>
      have h1 := hrel 0 _ a rfl rfl
      have h2 := hrel 1 _ b rfl rfl
      obtain rfl := asInt_val (k := .i64) (n := most) rfl h2
      cases h1 with
      | one hm => cases hm
      | @many _ cs _ h1 =>
        cases h1 with
        | p h1 =>
          have hl := h1.length
          match cs, hl, h1 with
          | [sa, sn], _, h1 =>
            exact (First_go l h.1 most (by omega) F w hs sa sn h1).mono fun e w' ⟨v, F', a, b, c, d, e⟩ => ⟨v, F', a, b, c, d, e⟩
end Go.Proofs.Ytjnjmnfacaakfaa
namespace Go.Proofs.Ytjnjmnfacaakfaa
open Go.Eng
def tabA : List (List UInt8) := [[97], [98], [99], [48], [91, 97, 45, 99, 93], [91, 97, 98, 93], [91, 48, 49, 93], [91, 45, 97, 93], [91, 97, 45, 102, 48, 45, 57, 93], [49], [102], [45]]
def tabB : List (List UInt8) := [[], [], [], [63], [43], [42]]
abbrev Pt := Draw × List UInt8
def pieceD (x : Pt) : Pt := (nextD (nextD x.1), x.2 ++ tabA.getD (nextV x.1 12).toNat [] ++ tabB.getD (nextV (nextD x.1) 6).toNat [])
def piecesD (x : Pt) : Nat → Pt
  | 0 => x
  | n + 1 => pieceD (piecesD x n)
def barD (k : Nat) (x : Pt) : Pt := if 0 < k then (x.1, x.2 ++ [124]) else x
def headD (k : Nat) (x : Pt) : Pt := (nextD (barD k x).1, (barD k x).2)
def branchD (k : Nat) (x : Pt) : Pt := piecesD (headD k x) (1 + nextV (barD k x).1 3).toNat
def branchesD (l : List Int) : Nat → Pt
  | 0 => (nextD { L := l, At := 0 }, [])
  | k + 1 => branchD k (branchesD l k)
def patS (l : List Int) : List UInt8 := (branchesD l (1 + nextV { L := l, At := 0 } 2).toNat).2
def OkD (l : List Int) (d : Draw) : Prop := d.L = l ∧ 0 ≤ d.At ∧ d.At ≤ l.length
theorem nextV_lt (d : Draw) {n : Int} (h : 0 < n) : 0 ≤ nextV d n ∧ nextV d n < n := by
  unfold nextV
  split
  · exact ⟨Int.emod_nonneg _ (by omega), Int.emod_lt_of_pos _ h⟩
  · omega
theorem nextD_ok {l : List Int} {d : Draw} (h : OkD l d) : OkD l (nextD d) := by
  obtain ⟨h1, h2, h3⟩ := h
  unfold nextD
  split
  · rename_i hlt
    rw [h1] at hlt
    exact ⟨h1, by show 0 ≤ d.At + 1; omega, by show d.At + 1 ≤ _; omega⟩
  · exact ⟨h1, h2, h3⟩
theorem tabA_len (n : Nat) : (tabA.getD n []).length ≤ 8 := by
  by_cases h : n < 12
  · have : ∀ k : Fin 12, (tabA.getD k.val []).length ≤ 8 := by decide +kernel
    exact this ⟨n, h⟩
  · have : tabA.getD n [] = [] := by simp [List.getD, List.getElem?_eq_none (show tabA.length ≤ n by show 12 ≤ n; omega)]
    rw [this]; simp
theorem tabB_len (n : Nat) : (tabB.getD n []).length ≤ 1 := by
  by_cases h : n < 6
  · have : ∀ k : Fin 6, (tabB.getD k.val []).length ≤ 1 := by decide +kernel
    exact this ⟨n, h⟩
  · have : tabB.getD n [] = [] := by simp [List.getD, List.getElem?_eq_none (show tabB.length ≤ n by show 6 ≤ n; omega)]
    rw [this]; simp
def OkP (l : List Int) (m : Nat) (x : Pt) : Prop := OkD l x.1 ∧ x.2.length ≤ m
theorem pieces_ok {l : List Int} {m : Nat} {x : Pt} (h : OkP l m x) : ∀ n, OkP l (m + 9 * n) (piecesD x n)
  | 0 => h
  | n + 1 => by
    have ih := pieces_ok h n
    refine ⟨nextD_ok (nextD_ok ih.1), ?_⟩
    have h1 := tabA_len (nextV (piecesD x n).1 12).toNat
    have h2 := tabB_len (nextV (nextD (piecesD x n).1) 6).toNat
    have h3 := ih.2
    show (_ ++ _ ++ _ : List UInt8).length ≤ _
    simp only [List.length_append]
    omega
theorem bar_ok {l : List Int} {m k : Nat} {x : Pt} (h : OkP l m x) : OkP l (m + 1) (barD k x) := by
  unfold barD
  split
  · exact ⟨h.1, by have := h.2; simp; omega⟩
  · exact ⟨h.1, by have := h.2; omega⟩
theorem head_ok {l : List Int} {m k : Nat} {x : Pt} (h : OkP l m x) : OkP l (m + 1) (headD k x) := ⟨nextD_ok (bar_ok h).1, (bar_ok (k := k) h).2⟩
theorem branches_ok (l : List Int) : ∀ k, OkP l (28 * k) (branchesD l k)
  | 0 => ⟨nextD_ok ⟨rfl, by show (0 : Int) ≤ 0; omega, by show (0 : Int) ≤ _; omega⟩, by simp [branchesD]⟩
  | k + 1 => by
    have h := pieces_ok (head_ok (k := k) (branches_ok l k)) (1 + nextV (barD k (branchesD l k)).1 3).toNat
    have h3 := nextV_lt (barD k (branchesD l k)).1 (n := 3) (by omega)
    exact ⟨h.1, by have := h.2; show (piecesD _ _).2.length ≤ _; omega⟩
theorem pattern_ok (l : List Int) (hb0 : l.length < 4611686018427387904) : Pure Try.prog 9 [(eL eI 1 0) l] (vstr (patS l)) := by
  have hv0 := nextV_lt ({ L := l, At := 0 } : Draw) (n := 2) (by omega)
  refine pure_of (fn := Try.f9) Try.func9 rfl rfl fun F_ W0_ => ?_
  refine tr_seq ?_
  refine tr_r (vc := []) (E' := [(0, none, .p ((eL eI 1 0) l))]) (H' := []) [] [] [0] (by kernel_rfl) ?_ ?_
  · exact trivial
  refine tr_then (tr_seq ?_)
  refine tr_r (vc := []) (E' := [(3, none, .ref 0 [])]) (H' := [.box (.p (.agg [(eL eI 1 0) l, .v (.int .i64 0)]))]) [] [] [3] (by kernel_rfl) ?_ ?_
  · exact trivial
  refine tr_then (tr_seq ?_)
  refine tr_r (vc := []) (E' := [(3, none, .ref 0 []), (4, none, vstr ([] : List UInt8))]) (H' := [.box (.p (.agg [(eL eI 1 0) l, .v (.int .i64 0)]))]) [] [] [3, 4] (by kernel_rfl) ?_ ?_
  · exact trivial
  refine tr_then (tr_seq ?_)
  refine tr_r (vc := [Mut Try.prog 30 (.agg [(eL eI 1 0) l, .v (.int .i64 0)]) [.v (.int .i64 2)] (eDraw (nextD ({ L := l, At := 0 } : Draw))) (vint .i64 (nextV ({ L := l, At := 0 } : Draw) 2)), (IntKind.wrap .i64 ((1 : Int) + (nextV ({ L := l, At := 0 } : Draw) 2))) = ((1 : Int) + (nextV ({ L := l, At := 0 } : Draw) 2))]) (E' := [(3, none, .ref 0 []), (4, none, vstr ([] : List UInt8)), (5, none, vint .i64 ((1 : Int) + (nextV ({ L := l, At := 0 } : Draw) 2)))]) (H' := [.box (.p (eDraw (nextD ({ L := l, At := 0 } : Draw))))]) [(2, vint .i64 ((1 : Int) + (nextV ({ L := l, At := 0 } : Draw) 2)))] [(1, .tup [.p (eDraw (nextD ({ L := l, At := 0 } : Draw))), vint .i64 (nextV ({ L := l, At := 0 } : Draw) 2)])] [3, 4, 5] (by kernel_rfl) ?_ ?_
  · refine al ?_ (al ?_ (trivial))
    · exact next_ok ({ L := l, At := 0 } : Draw) 2 (by omega) (by omega) (by first | omega | (simp; done) | (simp; omega) | (simp_all; done) | (simp_all; omega)) (by first | omega | (simp; done) | (simp; omega) | (simp_all; done) | (simp_all; omega)) (by first | omega | (simp; done) | (simp; omega) | (simp_all; done) | (simp_all; omega))
    · exact wr64 (by omega) (by omega) (by omega)
  refine tr_then (tr_seq ?_)
  refine tr_seq ?_
  refine tr_r (vc := []) (E' := [(3, none, .ref 0 []), (4, none, vstr ([] : List UInt8)), (5, none, vint .i64 ((1 : Int) + (nextV ({ L := l, At := 0 } : Draw) 2))), (6, none, vint .i64 0)]) (H' := [.box (.p (eDraw (nextD ({ L := l, At := 0 } : Draw))))]) [] [] [3, 4, 5, 6] (by kernel_rfl) ?_ ?_
  · exact trivial
  refine tr_then ?_
  refine tr_block ?_
  refine tr_loop (α := Nat) (fun z : Nat => (fun (k : Nat) => [(3, none, .ref 0 []), (4, none, vstr ((branchesD l k).2)), (5, none, vint .i64 ((1 : Int) + (nextV ({ L := l, At := 0 } : Draw) 2))), (6, none, vint .i64 ((k : Nat) : Int))]) z) (fun z : Nat => (fun (k : Nat) => [.box (.p (eDraw ((branchesD l k).1)))]) z) (fun z : Nat => (fun (k : Nat) => ((k : Int) ≤ 1 + nextV ({ L := l, At := 0 } : Draw) 2)) z) (fun z : Nat => (fun (k : Nat) => (1 + nextV ({ L := l, At := 0 } : Draw) 2 - k).toNat) z) 0 ?_ ?_ ?_
  · show ((0 : Int) ≤ 1 + nextV ({ L := l, At := 0 } : Draw) 2)
    · omega
  · intro A_ W_ hS
    replace hS := sl_set (d := vstr ([] : List UInt8)) 4 (vstr ((branchesD l 0).2)) (by kernel_rfl) (eqD_str (by rfl)) hS
    replace hS := sl_set (d := vint .i64 0) 6 (vint .i64 ((0 : Nat) : Int)) (by kernel_rfl) (eqD_int (by omega)) hS
    replace hS := sl_obj_imp (d := .p (eDraw (nextD ({ L := l, At := 0 } : Draw)))) 0 (.p (eDraw ((branchesD l 0).1))) (by kernel_rfl) (impC_eq (congrArg (fun x => D.p (eDraw x)) (a₁ := (nextD ({ L := l, At := 0 } : Draw))) (a₂ := ((branchesD l 0).1)) (by rfl))) hS
    exact sl_weak (vc := []) [0] [3, 4, 5, 6] (by kernel_rfl) trivial hS
  · intro z hz
    revert z; intro k hz
    have hz : ((k : Int) ≤ 1 + nextV ({ L := l, At := 0 } : Draw) 2) := hz
    have hi0_0 := hz
    have hok := branches_ok l k
    have hk2 : k ≤ 2 := by omega
    refine tr_seq ?_
    refine tr_seq ?_
    refine tr_r (vc := []) (E' := [(3, none, .ref 0 []), (4, none, vstr ((branchesD l k).2)), (5, none, vint .i64 ((1 : Int) + (nextV ({ L := l, At := 0 } : Draw) 2))), (6, none, vint .i64 ((k : Nat) : Int)), (17, none, vbool (decide (((k : Nat) : Int) < ((1 : Int) + (nextV ({ L := l, At := 0 } : Draw) 2)))))]) (H' := [.box (.p (eDraw ((branchesD l k).1)))]) [] [] [3, 4, 5, 6, 17] (by kernel_rfl) ?_ ?_
    · exact trivial
    refine tr_then ?_
    refine tr_condP (decide (((k : Nat) : Int) < ((1 : Int) + (nextV ({ L := l, At := 0 } : Draw) 2)))) (((k : Nat) : Int) < ((1 : Int) + (nextV ({ L := l, At := 0 } : Draw) 2))) (by simp) (by kernel_rfl) (fun hc1 => ?_) (fun hc1 => ?_)
    · skip
      refine tr_skip ?_
      refine tr_then (tr_seq ?_)
      refine tr_block ?_
      refine tr_join (α := Unit) (fun z : Unit => [(3, none, .ref 0 []), (4, none, vstr ((barD k (branchesD l k)).2)), (5, none, vint .i64 ((1 : Int) + (nextV ({ L := l, At := 0 } : Draw) 2))), (6, none, vint .i64 ((k : Nat) : Int))]) (fun z : Unit => [.box (.p (eDraw ((barD k (branchesD l k)).1)))]) (fun z : Unit => True) ?_ ?_
      · intro z hz
        have hbk := bar_ok (k := k) hok
        have hv1 := nextV_lt (barD k (branchesD l k)).1 (n := 3) (by omega)
        obtain ⟨⟨e0, e1, e2⟩, e3⟩ := hbk
        refine tr_seq ?_
        refine tr_r (vc := [Mut Try.prog 30 (eDraw ((barD k (branchesD l k)).1)) [.v (.int .i64 3)] (eDraw (nextD ((barD k (branchesD l k)).1))) (vint .i64 (nextV ((barD k (branchesD l k)).1) 3)), (IntKind.wrap .i64 ((1 : Int) + (nextV ((barD k (branchesD l k)).1) 3))) = ((1 : Int) + (nextV ((barD k (branchesD l k)).1) 3))]) (E' := [(3, none, .ref 0 []), (4, none, vstr ((barD k (branchesD l k)).2)), (5, none, vint .i64 ((1 : Int) + (nextV ({ L := l, At := 0 } : Draw) 2))), (6, none, vint .i64 ((k : Nat) : Int)), (7, none, vint .i64 ((1 : Int) + (nextV ((barD k (branchesD l k)).1) 3)))]) (H' := [.box (.p (eDraw (nextD ((barD k (branchesD l k)).1))))]) [(2, vint .i64 ((1 : Int) + (nextV ((barD k (branchesD l k)).1) 3)))] [(1, .tup [.p (eDraw (nextD ((barD k (branchesD l k)).1))), vint .i64 (nextV ((barD k (branchesD l k)).1) 3)])] [3, 4, 5, 6, 7] (by kernel_rfl) ?_ ?_
        · refine al ?_ (al ?_ (trivial))
          · exact next_ok ((barD k (branchesD l k)).1) 3 (by omega) (by omega) (by first | omega | (simp; done) | (simp; omega) | (simp_all; done) | (simp_all; omega)) (by first | omega | (simp; done) | (simp; omega) | (simp_all; done) | (simp_all; omega)) (by first | omega | (simp; done) | (simp; omega) | (simp_all; done) | (simp_all; omega))
          · exact wr64 (by omega) (by omega) (by omega)
        refine tr_then (tr_seq ?_)
        refine tr_r (vc := []) (E' := [(3, none, .ref 0 []), (4, none, vstr ((barD k (branchesD l k)).2)), (5, none, vint .i64 ((1 : Int) + (nextV ({ L := l, At := 0 } : Draw) 2))), (6, none, vint .i64 ((k : Nat) : Int)), (7, none, vint .i64 ((1 : Int) + (nextV ((barD k (branchesD l k)).1) 3))), (8, none, vint .i64 0)]) (H' := [.box (.p (eDraw (nextD ((barD k (branchesD l k)).1))))]) [] [] [3, 4, 5, 6, 7, 8] (by kernel_rfl) ?_ ?_
        · exact trivial
        refine tr_then ?_
        refine tr_block ?_
        refine tr_loop (α := Nat) (fun z : Nat => (fun (q : Nat) => [(3, none, .ref 0 []), (4, none, vstr ((piecesD (headD k (branchesD l k)) q).2)), (5, none, vint .i64 ((1 : Int) + (nextV ({ L := l, At := 0 } : Draw) 2))), (6, none, vint .i64 ((k : Nat) : Int)), (7, none, vint .i64 ((1 : Int) + (nextV ((barD k (branchesD l k)).1) 3))), (8, none, vint .i64 ((q : Nat) : Int))]) z) (fun z : Nat => (fun (q : Nat) => [.box (.p (eDraw ((piecesD (headD k (branchesD l k)) q).1)))]) z) (fun z : Nat => (fun (q : Nat) => ((q : Int) ≤ 1 + nextV (barD k (branchesD l k)).1 3)) z) (fun z : Nat => (fun (q : Nat) => (1 + nextV (barD k (branchesD l k)).1 3 - q).toNat) z) 0 ?_ ?_ ?_
        · show ((0 : Int) ≤ 1 + nextV (barD k (branchesD l k)).1 3)
          · omega
        · intro A_ W_ hS
          replace hS := sl_set (d := vstr ((barD k (branchesD l k)).2)) 4 (vstr ((piecesD (headD k (branchesD l k)) 0).2)) (by kernel_rfl) (eqD_str (by rfl)) hS
          replace hS := sl_set (d := vint .i64 0) 8 (vint .i64 ((0 : Nat) : Int)) (by kernel_rfl) (eqD_int (by omega)) hS
          replace hS := sl_obj_imp (d := .p (eDraw (nextD ((barD k (branchesD l k)).1)))) 0 (.p (eDraw ((piecesD (headD k (branchesD l k)) 0).1))) (by kernel_rfl) (impC_eq (congrArg (fun x => D.p (eDraw x)) (a₁ := (nextD ((barD k (branchesD l k)).1))) (a₂ := ((piecesD (headD k (branchesD l k)) 0).1)) (by rfl))) hS
          exact sl_weak (vc := []) [0] [3, 4, 5, 6, 7, 8] (by kernel_rfl) trivial hS
        · intro z hz
          revert z; intro q hz
          have hz : ((q : Int) ≤ 1 + nextV (barD k (branchesD l k)).1 3) := hz
          have hi1_0 := hz
          have hpk := pieces_ok (head_ok (k := k) hok) q
          obtain ⟨⟨p0, p1, p2⟩, p3⟩ := hpk
          have hv2 := nextV_lt (piecesD (headD k (branchesD l k)) q).1 (n := 12) (by omega)
          have hv3 := nextV_lt (nextD (piecesD (headD k (branchesD l k)) q).1) (n := 6) (by omega)
          obtain ⟨r0, r1, r2⟩ := nextD_ok (l := l) (d := (piecesD (headD k (branchesD l k)) q).1) ⟨p0, p1, p2⟩
          refine tr_seq ?_
          refine tr_seq ?_
          refine tr_r (vc := []) (E' := [(3, none, .ref 0 []), (4, none, vstr ((piecesD (headD k (branchesD l k)) q).2)), (5, none, vint .i64 ((1 : Int) + (nextV ({ L := l, At := 0 } : Draw) 2))), (6, none, vint .i64 ((k : Nat) : Int)), (7, none, vint .i64 ((1 : Int) + (nextV ((barD k (branchesD l k)).1) 3))), (8, none, vint .i64 ((q : Nat) : Int)), (29, none, vbool (decide (((q : Nat) : Int) < ((1 : Int) + (nextV ((barD k (branchesD l k)).1) 3)))))]) (H' := [.box (.p (eDraw ((piecesD (headD k (branchesD l k)) q).1)))]) [] [] [3, 4, 5, 6, 7, 8, 29] (by kernel_rfl) ?_ ?_
          · exact trivial
          refine tr_then ?_
          refine tr_condP (decide (((q : Nat) : Int) < ((1 : Int) + (nextV ((barD k (branchesD l k)).1) 3)))) (((q : Nat) : Int) < ((1 : Int) + (nextV ((barD k (branchesD l k)).1) 3))) (by simp) (by kernel_rfl) (fun hc2 => ?_) (fun hc2 => ?_)
          · skip
            refine tr_skip ?_
            refine tr_then (tr_seq ?_)
            refine tr_block ?_
            refine tr_dx (vc := [∀ j, j < 12 → ([.s ([97] : List UInt8), .s ([98] : List UInt8), .s ([99] : List UInt8), .s ([48] : List UInt8), .s ([91, 97, 45, 99, 93] : List UInt8), .s ([91, 97, 98, 93] : List UInt8), .s ([91, 48, 49, 93] : List UInt8), .s ([91, 45, 97, 93] : List UInt8), .s ([91, 97, 45, 102, 48, 45, 57, 93] : List UInt8), .s ([49] : List UInt8), .s ([102] : List UInt8), .s ([45] : List UInt8)] : List PV).getD j default = (fun i => eS (([([97] : List UInt8), ([98] : List UInt8), ([99] : List UInt8), ([48] : List UInt8), ([91, 97, 45, 99, 93] : List UInt8), ([91, 97, 98, 93] : List UInt8), ([91, 48, 49, 93] : List UInt8), ([91, 45, 97, 93] : List UInt8), ([91, 97, 45, 102, 48, 45, 57, 93] : List UInt8), ([49] : List UInt8), ([102] : List UInt8), ([45] : List UInt8)]).getD i [])) j, Mut Try.prog 30 (eDraw ((piecesD (headD k (branchesD l k)) q).1)) [.v (.int .i64 12)] (eDraw (nextD ((piecesD (headD k (branchesD l k)) q).1))) (vint .i64 (nextV ((piecesD (headD k (branchesD l k)) q).1) 12)), (0 : Int) ≤ (nextV ((piecesD (headD k (branchesD l k)) q).1) 12), (nextV ((piecesD (headD k (branchesD l k)) q).1) 12) < (([([97] : List UInt8), ([98] : List UInt8), ([99] : List UInt8), ([48] : List UInt8), ([91, 97, 45, 99, 93] : List UInt8), ([91, 97, 98, 93] : List UInt8), ([91, 48, 49, 93] : List UInt8), ([91, 45, 97, 93] : List UInt8), ([91, 97, 45, 102, 48, 45, 57, 93] : List UInt8), ([49] : List UInt8), ([102] : List UInt8), ([45] : List UInt8)]).length : Int), ((((piecesD (headD k (branchesD l k)) q).2).length + (([([97] : List UInt8), ([98] : List UInt8), ([99] : List UInt8), ([48] : List UInt8), ([91, 97, 45, 99, 93] : List UInt8), ([91, 97, 98, 93] : List UInt8), ([91, 48, 49, 93] : List UInt8), ([91, 45, 97, 93] : List UInt8), ([91, 97, 45, 102, 48, 45, 57, 93] : List UInt8), ([49] : List UInt8), ([102] : List UInt8), ([45] : List UInt8)]).getD ((nextV ((piecesD (headD k (branchesD l k)) q).1) 12).toNat) []).length : Nat) : Int) ≤ 9223372036854775807, ∀ j, j < 6 → ([.s ([] : List UInt8), .s ([] : List UInt8), .s ([] : List UInt8), .s ([63] : List UInt8), .s ([43] : List UInt8), .s ([42] : List UInt8)] : List PV).getD j default = (fun i => eS (([([] : List UInt8), ([] : List UInt8), ([] : List UInt8), ([63] : List UInt8), ([43] : List UInt8), ([42] : List UInt8)]).getD i [])) j, Mut Try.prog 30 (eDraw (nextD ((piecesD (headD k (branchesD l k)) q).1))) [.v (.int .i64 6)] (eDraw (nextD (nextD ((piecesD (headD k (branchesD l k)) q).1)))) (vint .i64 (nextV (nextD ((piecesD (headD k (branchesD l k)) q).1)) 6)), (0 : Int) ≤ (nextV (nextD ((piecesD (headD k (branchesD l k)) q).1)) 6), (nextV (nextD ((piecesD (headD k (branchesD l k)) q).1)) 6) < (([([] : List UInt8), ([] : List UInt8), ([] : List UInt8), ([63] : List UInt8), ([43] : List UInt8), ([42] : List UInt8)]).length : Int), (((((piecesD (headD k (branchesD l k)) q).2) ++ (([([97] : List UInt8), ([98] : List UInt8), ([99] : List UInt8), ([48] : List UInt8), ([91, 97, 45, 99, 93] : List UInt8), ([91, 97, 98, 93] : List UInt8), ([91, 48, 49, 93] : List UInt8), ([91, 45, 97, 93] : List UInt8), ([91, 97, 45, 102, 48, 45, 57, 93] : List UInt8), ([49] : List UInt8), ([102] : List UInt8), ([45] : List UInt8)]).getD ((nextV ((piecesD (headD k (branchesD l k)) q).1) 12).toNat) [])).length + (([([] : List UInt8), ([] : List UInt8), ([] : List UInt8), ([63] : List UInt8), ([43] : List UInt8), ([42] : List UInt8)]).getD ((nextV (nextD ((piecesD (headD k (branchesD l k)) q).1)) 6).toNat) []).length : Nat) : Int) ≤ 9223372036854775807]) (E' := [(3, none, .ref 0 []), (4, none, vstr ((((piecesD (headD k (branchesD l k)) q).2) ++ (([([97] : List UInt8), ([98] : List UInt8), ([99] : List UInt8), ([48] : List UInt8), ([91, 97, 45, 99, 93] : List UInt8), ([91, 97, 98, 93] : List UInt8), ([91, 48, 49, 93] : List UInt8), ([91, 45, 97, 93] : List UInt8), ([91, 97, 45, 102, 48, 45, 57, 93] : List UInt8), ([49] : List UInt8), ([102] : List UInt8), ([45] : List UInt8)]).getD ((nextV ((piecesD (headD k (branchesD l k)) q).1) 12).toNat) [])) ++ (([([] : List UInt8), ([] : List UInt8), ([] : List UInt8), ([63] : List UInt8), ([43] : List UInt8), ([42] : List UInt8)]).getD ((nextV (nextD ((piecesD (headD k (branchesD l k)) q).1)) 6).toNat) []))), (5, none, vint .i64 ((1 : Int) + (nextV ({ L := l, At := 0 } : Draw) 2))), (6, none, vint .i64 ((k : Nat) : Int)), (7, none, vint .i64 ((1 : Int) + (nextV ((barD k (branchesD l k)).1) 3))), (8, none, vint .i64 ((q : Nat) : Int))]) (H' := [.box (.p (eDraw (nextD (nextD ((piecesD (headD k (branchesD l k)) q).1)))))]) 1 [(3, 1, [0], [0]), (9, 1, [0], [0])] [] [(1, .p ((eL eS 1 []) ([([97] : List UInt8), ([98] : List UInt8), ([99] : List UInt8), ([48] : List UInt8), ([91, 97, 45, 99, 93] : List UInt8), ([91, 97, 98, 93] : List UInt8), ([91, 48, 49, 93] : List UInt8), ([91, 45, 97, 93] : List UInt8), ([91, 97, 45, 102, 48, 45, 57, 93] : List UInt8), ([49] : List UInt8), ([102] : List UInt8), ([45] : List UInt8)]))), (3, .tup [.p (eDraw (nextD ((piecesD (headD k (branchesD l k)) q).1))), vint .i64 (nextV ((piecesD (headD k (branchesD l k)) q).1) 12)]), (7, .p ((eL eS 1 []) ([([] : List UInt8), ([] : List UInt8), ([] : List UInt8), ([63] : List UInt8), ([43] : List UInt8), ([42] : List UInt8)]))), (9, .tup [.p (eDraw (nextD (nextD ((piecesD (headD k (branchesD l k)) q).1)))), vint .i64 (nextV (nextD ((piecesD (headD k (branchesD l k)) q).1)) 6)])] [3, 4, 5, 6, 7, 8] (by kernel_rfl) (by kernel_rfl) (by kernel_rfl) (by kernel_rfl) ?_ ?_
            · refine al ?_ (al ?_ (al ?_ (al ?_ (al ?_ (al ?_ (al ?_ (al ?_ (al ?_ (al ?_ (trivial))))))))))
              · exact lit_pv (e := eS) (d := []) (l := [([97] : List UInt8), ([98] : List UInt8), ([99] : List UInt8), ([48] : List UInt8), ([91, 97, 45, 99, 93] : List UInt8), ([91, 97, 98, 93] : List UInt8), ([91, 48, 49, 93] : List UInt8), ([91, 45, 97, 93] : List UInt8), ([91, 97, 45, 102, 48, 45, 57, 93] : List UInt8), ([49] : List UInt8), ([102] : List UInt8), ([45] : List UInt8)])
              · exact next_ok ((piecesD (headD k (branchesD l k)) q).1) 12 (by omega) (by omega) (by first | omega | (simp; done) | (simp; omega) | (simp_all; done) | (simp_all; omega)) (by first | omega | (simp; done) | (simp; omega) | (simp_all; done) | (simp_all; omega)) (by first | omega | (simp; done) | (simp; omega) | (simp_all; done) | (simp_all; omega))
              · omega
              · (simp_all; done)
              · have h1 : (tabA.getD (nextV (piecesD (headD k (branchesD l k)) q).1 12).toNat []).length ≤ 8 := tabA_len _; unfold tabA at h1; omega
              · exact lit_pv (e := eS) (d := []) (l := [([] : List UInt8), ([] : List UInt8), ([] : List UInt8), ([63] : List UInt8), ([43] : List UInt8), ([42] : List UInt8)])
              · exact next_ok (nextD ((piecesD (headD k (branchesD l k)) q).1)) 6 (by omega) (by omega) (by first | omega | (simp; done) | (simp; omega) | (simp_all; done) | (simp_all; omega)) (by first | omega | (simp; done) | (simp; omega) | (simp_all; done) | (simp_all; omega)) (by first | omega | (simp; done) | (simp; omega) | (simp_all; done) | (simp_all; omega))
              · omega
              · (simp_all; done)
              · have h1 : (tabA.getD (nextV (piecesD (headD k (branchesD l k)) q).1 12).toNat []).length ≤ 8 := tabA_len _; have h2 : (tabB.getD (nextV (nextD (piecesD (headD k (branchesD l k)) q).1) 6).toNat []).length ≤ 1 := tabB_len _; unfold tabA at h1; unfold tabB at h2; simp only [List.length_append]; omega
            refine in_n ?_
            refine tr_then ?_
            refine tr_r (vc := [(IntKind.wrap .i64 (((q : Nat) : Int) + 1)) = (((q + 1) : Nat) : Int)]) (E' := [(3, none, .ref 0 []), (4, none, vstr ((((piecesD (headD k (branchesD l k)) q).2) ++ (([([97] : List UInt8), ([98] : List UInt8), ([99] : List UInt8), ([48] : List UInt8), ([91, 97, 45, 99, 93] : List UInt8), ([91, 97, 98, 93] : List UInt8), ([91, 48, 49, 93] : List UInt8), ([91, 45, 97, 93] : List UInt8), ([91, 97, 45, 102, 48, 45, 57, 93] : List UInt8), ([49] : List UInt8), ([102] : List UInt8), ([45] : List UInt8)]).getD ((nextV ((piecesD (headD k (branchesD l k)) q).1) 12).toNat) [])) ++ (([([] : List UInt8), ([] : List UInt8), ([] : List UInt8), ([63] : List UInt8), ([43] : List UInt8), ([42] : List UInt8)]).getD ((nextV (nextD ((piecesD (headD k (branchesD l k)) q).1)) 6).toNat) []))), (5, none, vint .i64 ((1 : Int) + (nextV ({ L := l, At := 0 } : Draw) 2))), (6, none, vint .i64 ((k : Nat) : Int)), (7, none, vint .i64 ((1 : Int) + (nextV ((barD k (branchesD l k)).1) 3))), (8, none, vint .i64 (((q + 1) : Nat) : Int))]) (H' := [.box (.p (eDraw (nextD (nextD ((piecesD (headD k (branchesD l k)) q).1)))))]) [(1, vint .i64 (((q + 1) : Nat) : Int))] [] [3, 4, 5, 6, 7, 8] (by kernel_rfl) ?_ ?_
            · refine al ?_ (trivial)
              · exact wr64 (by omega) (by omega) (by omega)
            refine lp_end (q + 1) ?_ ?_ ?_
            · show (((q + 1) : Int) ≤ 1 + nextV (barD k (branchesD l k)).1 3)
              · omega
            · show (1 + nextV (barD k (branchesD l k)).1 3 - (q + 1)).toNat < (1 + nextV (barD k (branchesD l k)).1 3 - q).toNat
              omega
            · intro A_ W_ hS
              replace hS := sl_set (d := vstr ((((piecesD (headD k (branchesD l k)) q).2) ++ (([([97] : List UInt8), ([98] : List UInt8), ([99] : List UInt8), ([48] : List UInt8), ([91, 97, 45, 99, 93] : List UInt8), ([91, 97, 98, 93] : List UInt8), ([91, 48, 49, 93] : List UInt8), ([91, 45, 97, 93] : List UInt8), ([91, 97, 45, 102, 48, 45, 57, 93] : List UInt8), ([49] : List UInt8), ([102] : List UInt8), ([45] : List UInt8)]).getD ((nextV ((piecesD (headD k (branchesD l k)) q).1) 12).toNat) [])) ++ (([([] : List UInt8), ([] : List UInt8), ([] : List UInt8), ([63] : List UInt8), ([43] : List UInt8), ([42] : List UInt8)]).getD ((nextV (nextD ((piecesD (headD k (branchesD l k)) q).1)) 6).toNat) []))) 4 (vstr ((piecesD (headD k (branchesD l k)) (q + 1)).2)) (by kernel_rfl) (eqD_str (by rfl)) hS
              replace hS := sl_obj_imp (d := .p (eDraw (nextD (nextD ((piecesD (headD k (branchesD l k)) q).1))))) 0 (.p (eDraw ((piecesD (headD k (branchesD l k)) (q + 1)).1))) (by kernel_rfl) (impC_eq (congrArg (fun x => D.p (eDraw x)) (a₁ := (nextD (nextD ((piecesD (headD k (branchesD l k)) q).1)))) (a₂ := ((piecesD (headD k (branchesD l k)) (q + 1)).1)) (by rfl))) hS
              exact sl_weak (vc := []) [0] [3, 4, 5, 6, 7, 8] (by kernel_rfl) trivial hS
          · skip
            refine tr_exit ?_
            refine th_e ?_
            refine th_e ?_
            refine in_hit ?_
            refine in_n ?_
            refine tr_then ?_
            refine tr_r (vc := [(IntKind.wrap .i64 (((k : Nat) : Int) + 1)) = (((k + 1) : Nat) : Int)]) (E' := [(3, none, .ref 0 []), (4, none, vstr ((piecesD (headD k (branchesD l k)) q).2)), (5, none, vint .i64 ((1 : Int) + (nextV ({ L := l, At := 0 } : Draw) 2))), (6, none, vint .i64 (((k + 1) : Nat) : Int))]) (H' := [.box (.p (eDraw ((piecesD (headD k (branchesD l k)) q).1)))]) [(1, vint .i64 (((k + 1) : Nat) : Int))] [] [3, 4, 5, 6] (by kernel_rfl) ?_ ?_
            · refine al ?_ (trivial)
              · exact wr64 (by omega) (by omega) (by omega)
            refine lp_end (k + 1) ?_ ?_ ?_
            · show (((k + 1) : Int) ≤ 1 + nextV ({ L := l, At := 0 } : Draw) 2)
              · omega
            · show (1 + nextV ({ L := l, At := 0 } : Draw) 2 - (k + 1)).toNat < (1 + nextV ({ L := l, At := 0 } : Draw) 2 - k).toNat
              omega
            · intro A_ W_ hS
              replace hS := sl_set (d := vstr ((piecesD (headD k (branchesD l k)) q).2)) 4 (vstr ((branchesD l (k + 1)).2)) (by kernel_rfl) (eqD_str (by rw [show q = (1 + nextV (barD k (branchesD l k)).1 3).toNat by omega]; rfl)) hS
              replace hS := sl_obj_imp (d := .p (eDraw ((piecesD (headD k (branchesD l k)) q).1))) 0 (.p (eDraw ((branchesD l (k + 1)).1))) (by kernel_rfl) (impC_eq (congrArg (fun x => D.p (eDraw x)) (a₁ := ((piecesD (headD k (branchesD l k)) q).1)) (a₂ := ((branchesD l (k + 1)).1)) (by rw [show q = (1 + nextV (barD k (branchesD l k)).1 3).toNat by omega]; rfl))) hS
              exact sl_weak (vc := []) [0] [3, 4, 5, 6] (by kernel_rfl) trivial hS
      · skip
        refine tr_seq ?_
        refine tr_r (vc := []) (E' := [(3, none, .ref 0 []), (4, none, vstr ((branchesD l k).2)), (5, none, vint .i64 ((1 : Int) + (nextV ({ L := l, At := 0 } : Draw) 2))), (6, none, vint .i64 ((k : Nat) : Int)), (21, none, vbool (decide (0 < ((k : Nat) : Int))))]) (H' := [.box (.p (eDraw ((branchesD l k).1)))]) [] [] [3, 4, 5, 6, 21] (by kernel_rfl) ?_ ?_
        · exact trivial
        refine tr_then ?_
        refine tr_condP (decide (0 < ((k : Nat) : Int))) (0 < ((k : Nat) : Int)) (by simp) (by kernel_rfl) (fun hc3 => ?_) (fun hc3 => ?_)
        · skip
          refine tr_r (vc := [((((branchesD l k).2).length + ([124] : List UInt8).length : Nat) : Int) ≤ 9223372036854775807]) (E' := [(3, none, .ref 0 []), (4, none, vstr (((branchesD l k).2) ++ ([124] : List UInt8))), (5, none, vint .i64 ((1 : Int) + (nextV ({ L := l, At := 0 } : Draw) 2))), (6, none, vint .i64 ((k : Nat) : Int))]) (H' := [.box (.p (eDraw ((branchesD l k).1)))]) [] [] [3, 4, 5, 6] (by kernel_rfl) ?_ ?_
          · refine al ?_ (trivial)
            · have h0 := hok.2; simp only [List.length_cons, List.length_nil]; omega
          refine jn_end () ?_ ?_
          · exact trivial
          · intro A_ W_ hS
            replace hS := sl_set (d := vstr (((branchesD l k).2) ++ ([124] : List UInt8))) 4 (vstr ((barD k (branchesD l k)).2)) (by kernel_rfl) (eqD_str (by first | (unfold barD; rw [if_pos (by omega)]) | (unfold barD; rw [if_neg (by omega)]))) hS
            replace hS := sl_obj_imp (d := .p (eDraw ((branchesD l k).1))) 0 (.p (eDraw ((barD k (branchesD l k)).1))) (by kernel_rfl) (impC_eq (congrArg (fun x => D.p (eDraw x)) (a₁ := ((branchesD l k).1)) (a₂ := ((barD k (branchesD l k)).1)) (by first | (unfold barD; rw [if_pos (by omega)]) | (unfold barD; rw [if_neg (by omega)])))) hS
            exact sl_weak (vc := []) [0] [3, 4, 5, 6] (by kernel_rfl) trivial hS
        · skip
          refine tr_skip ?_
          refine jn_end () ?_ ?_
          · exact trivial
          · intro A_ W_ hS
            replace hS := sl_set (d := vstr ((branchesD l k).2)) 4 (vstr ((barD k (branchesD l k)).2)) (by kernel_rfl) (eqD_str (by first | (unfold barD; rw [if_pos (by omega)]) | (unfold barD; rw [if_neg (by omega)]))) hS
            replace hS := sl_obj_imp (d := .p (eDraw ((branchesD l k).1))) 0 (.p (eDraw ((barD k (branchesD l k)).1))) (by kernel_rfl) (impC_eq (congrArg (fun x => D.p (eDraw x)) (a₁ := ((branchesD l k).1)) (a₂ := ((barD k (branchesD l k)).1)) (by first | (unfold barD; rw [if_pos (by omega)]) | (unfold barD; rw [if_neg (by omega)])))) hS
            exact sl_weak (vc := []) [0] [3, 4, 5, 6] (by kernel_rfl) trivial hS
    · skip
      refine tr_exit ?_
      refine th_e ?_
      refine th_e ?_
      refine in_hit ?_
      refine tr_then (tr_seq ?_)
      refine tr_r (vc := []) (E' := [(2, none, vstr ((branchesD l k).2))]) (H' := [.box (.p (eDraw ((branchesD l k).1)))]) [] [] [2] (by kernel_rfl) ?_ ?_
      · exact trivial
      refine tr_then ?_
      refine tr_pre (E' := [(2, none, vstr ((branchesD l k).2))]) (H' := []) (fun A_ W_ hS => sl_weak (vc := []) [] [2] (by kernel_rfl) trivial hS) ?_
      refine tr_pre (E' := (2, none, vstr (patS l)) :: [(2, none, vstr ((branchesD l k).2))]) (H' := []) (fun A_ W_ hS => sl_set_imp (d := vstr ((branchesD l k).2)) 2 (vstr (patS l)) (by kernel_rfl) ?_ hS) ?_
      · refine imp_eq (congrArg (fun x => D.p (eS x)) (a₁ := ((branchesD l k).2)) (a₂ := (patS l)) ?_)
        rw [patS, show k = (1 + nextV ({ L := l, At := 0 } : Draw) 2).toNat by omega]
      refine tr_pre (E' := [(2, none, vstr (patS l))]) (H' := []) (fun A_ W_ hS => sl_proj (ts := [2]) (by kernel_rfl) hS) ?_
      exact tr_return' (vc := []) (ds := [vstr (patS l)]) (by kernel_rfl) trivial (by kernel_rfl) (fun _ _ h => h)
end Go.Proofs.Ytjnjmnfacaakfaa
namespace Go.Proofs.Ytjnjmnfacaakfaa
open Go.Eng
theorem langS_err (s : List UInt8) : (langS s).2 = 0 ∨ (langS s).2 = 2 ∨ (langS s).2 = 5 := by
  unfold langS
  split
  · simp
  · split
    · simp
    · split <;> simp
theorem bfs_len {ps : List Place} : ∀ {n k : Nat} {L : List Pl} {A : List Bool} {N : List (List Int)} {x : Lang}, A.length + n ≤ 17 → bfsM ps n L k A N = some x → x.Accept.length ≤ 17
  | 0, _, _, _, _, _, _, h => by cases h
  | n + 1, k, L, A, N, x, h1, h => by
    unfold bfsM at h
    split at h
    · split at h
      · cases h
      · exact bfs_len (by simp; omega) h
    · cases h
      show A.length ≤ 17
      omega
theorem langS_len (s : List UInt8) : (langS s).1.Accept.length ≤ 17 := by
  unfold langS
  split
  · simp [dLang]
  · split
    · simp [dLang]
    · split
      · rename_i l h
        exact bfs_len (A := []) (by simp) h
      · simp [dLang]
def statesS (s : List UInt8) : Int := if (langS s).2 ≠ 0 then -(langS s).2 else ((langS s).1.Accept.length : Int)
theorem states_ok (s : List UInt8) (hb0 : s.length < 4611686018427387904) : Pure Try.prog 29 [.s s] (vint .i64 (statesS s)) := by
  have he := langS_err s
  have hl := langS_len s
  refine pure_of (fn := Try.f29) Try.func29 rfl rfl fun F_ W0_ => ?_
  refine tr_seq ?_
  refine tr_r (vc := []) (E' := [(0, none, vstr s)]) (H' := []) [] [] [0] (by kernel_rfl) ?_ ?_
  · exact trivial
  refine tr_then (tr_seq ?_)
  refine tr_r (vc := [Pure Try.prog 11 [.s s] (.tup [.p (eLang ((langS s).1)), vint .i64 ((langS s).2)])]) (E' := [(3, none, .ref 0 []), (4, none, vint .i64 ((langS s).2))]) (H' := [.box (.p (eLang ((langS s).1)))]) [] [(1, .tup [.p (eLang ((langS s).1)), vint .i64 ((langS s).2)])] [3, 4] (by kernel_rfl) ?_ ?_
  · refine al ?_ (trivial)
    · exact Parse_ok _ (by omega)
  refine tr_then (tr_seq ?_)
  refine tr_seq ?_
  refine tr_r (vc := []) (E' := [(3, none, .ref 0 []), (4, none, vint .i64 ((langS s).2)), (11, none, vbool (((langS s).2) != 0))]) (H' := [.box (.p (eLang ((langS s).1)))]) [] [] [3, 4, 11] (by kernel_rfl) ?_ ?_
  · exact trivial
  refine tr_then ?_
  refine tr_condP (((langS s).2) != 0) (((langS s).2) ≠ 0) (by simp) (by kernel_rfl) (fun hc1 => ?_) (fun hc1 => ?_)
  · skip
    refine tr_seq ?_
    refine tr_r (vc := [(IntKind.wrap .i64 (0 - ((langS s).2))) = (-((langS s).2))]) (E' := [(2, none, vint .i64 (-((langS s).2)))]) (H' := [.box (.p (eLang ((langS s).1)))]) [(1, vint .i64 (-((langS s).2)))] [] [2] (by kernel_rfl) ?_ ?_
    · refine al ?_ (trivial)
      · exact wr64 (by omega) (by omega) (by omega)
    refine tr_then ?_
    refine tr_pre (E' := [(2, none, vint .i64 (-((langS s).2)))]) (H' := []) (fun A_ W_ hS => sl_weak (vc := []) [] [2] (by kernel_rfl) trivial hS) ?_
    refine tr_pre (E' := (2, none, vint .i64 (statesS s)) :: [(2, none, vint .i64 (-((langS s).2)))]) (H' := []) (fun A_ W_ hS => sl_set_imp (d := vint .i64 (-((langS s).2))) 2 (vint .i64 (statesS s)) (by kernel_rfl) ?_ hS) ?_
    · refine imp_eq (congrArg (fun x => D.p (eI x)) (a₁ := (-((langS s).2))) (a₂ := (statesS s)) ?_)
      first | (rw [statesS, if_pos (by omega)]; done) | (rw [statesS, if_neg (by omega)]; done)
    refine tr_pre (E' := [(2, none, vint .i64 (statesS s))]) (H' := []) (fun A_ W_ hS => sl_proj (ts := [2]) (by kernel_rfl) hS) ?_
    exact tr_return' (vc := []) (ds := [vint .i64 (statesS s)]) (by kernel_rfl) trivial (by kernel_rfl) (fun _ _ h => h)
  · skip
    refine tr_skip ?_
    refine tr_then (tr_seq ?_)
    refine tr_r (vc := []) (E' := [(2, none, vint .i64 (((((langS s).1).Accept).length : Nat) : Int))]) (H' := [.box (.p (eLang ((langS s).1)))]) [] [] [2] (by kernel_rfl) ?_ ?_
    · exact trivial
    refine tr_then ?_
    refine tr_pre (E' := [(2, none, vint .i64 (((((langS s).1).Accept).length : Nat) : Int))]) (H' := []) (fun A_ W_ hS => sl_weak (vc := []) [] [2] (by kernel_rfl) trivial hS) ?_
    refine tr_pre (E' := (2, none, vint .i64 (statesS s)) :: [(2, none, vint .i64 (((((langS s).1).Accept).length : Nat) : Int))]) (H' := []) (fun A_ W_ hS => sl_set_imp (d := vint .i64 (((((langS s).1).Accept).length : Nat) : Int)) 2 (vint .i64 (statesS s)) (by kernel_rfl) ?_ hS) ?_
    · refine imp_eq (congrArg (fun x => D.p (eI x)) (a₁ := (((((langS s).1).Accept).length : Nat) : Int)) (a₂ := (statesS s)) ?_)
      first | (rw [statesS, if_pos (by omega)]; done) | (rw [statesS, if_neg (by omega)]; done)
    refine tr_pre (E' := [(2, none, vint .i64 (statesS s))]) (H' := []) (fun A_ W_ hS => sl_proj (ts := [2]) (by kernel_rfl) hS) ?_
    exact tr_return' (vc := []) (ds := [vint .i64 (statesS s)]) (by kernel_rfl) trivial (by kernel_rfl) (fun _ _ h => h)
end Go.Proofs.Ytjnjmnfacaakfaa
namespace Go.Proofs.Ytjnjmnfacaakfaa
open Go.Eng
structure Aut (σ : Type) where
  step : σ → Nat → σ
  none : σ → Bool
  acc : σ → Bool
  same : σ → σ → Bool
section
variable {σ τ : Type}
def idxG (A : Aut σ) (x : σ) : List σ → Nat → Option Nat
  | [], _ => .none
  | y :: L, i => if A.same y x = true then some i else idxG A x L (i + 1)
def rowG (A : Aut σ) (x : σ) (L : List σ) : Nat → List σ × List Int
  | 0 => (L, [])
  | c + 1 => if A.none (A.step x c) = true then ((rowG A x L c).1, (rowG A x L c).2 ++ [-1]) else
    match idxG A (A.step x c) (rowG A x L c).1 0 with
    | some i => ((rowG A x L c).1, (rowG A x L c).2 ++ [(i : Int)])
    | .none => ((rowG A x L c).1 ++ [A.step x c], (rowG A x L c).2 ++ [((rowG A x L c).1.length : Int)])
def bfsG (A : Aut σ) : Nat → List σ → Nat → List Bool → List (List Int) → Option Lang
  | 0, _, _, _, _ => .none
  | n + 1, L, k, B, N => match L[k]? with
    | some x => if 16 < (rowG A x L 37).1.length then .none else bfsG A n (rowG A x L 37).1 (k + 1) (B ++ [A.acc x]) (N ++ [(rowG A x L 37).2])
    | .none => some { Accept := B, Next := N }
/-- Two searches that go side by side. -/
structure Side (A : Aut σ) (B : Aut τ) (R : σ → τ → Prop) : Prop where
  step : ∀ x y c, c < 37 → R x y → R (A.step x c) (B.step y c)
  none : ∀ x y, R x y → A.none x = B.none y
  acc : ∀ x y, R x y → A.acc x = B.acc y
  same : ∀ x y x' y', R x y → R x' y' → A.same x x' = B.same y y'
variable {A : Aut σ} {B : Aut τ} {R : σ → τ → Prop}
inductive Rel (R : σ → τ → Prop) : List σ → List τ → Prop where
  | nil : Rel R [] []
  | cons {x y L M} : R x y → Rel R L M → Rel R (x :: L) (y :: M)
theorem Rel.length {L : List σ} {M : List τ} (h : Rel R L M) : L.length = M.length := by
  induction h with
  | nil => rfl
  | cons _ _ ih => simp [ih]
theorem Rel.snoc {L : List σ} {M : List τ} {x : σ} {y : τ} (h : Rel R L M) (hx : R x y) : Rel R (L ++ [x]) (M ++ [y]) := by
  induction h with
  | nil => exact .cons hx .nil
  | cons h1 _ ih => exact .cons h1 ih
theorem Rel.get {L : List σ} {M : List τ} (h : Rel R L M) : ∀ k : Nat, (L[k]? = .none ∧ M[k]? = .none) ∨ ∃ x y, L[k]? = some x ∧ M[k]? = some y ∧ R x y := by
  induction h with
  | nil => intro k; simp
  | cons h1 _ ih =>
    intro k
    cases k with
    | zero => exact .inr ⟨_, _, rfl, rfl, h1⟩
    | succ k => simpa using ih k
theorem idxG_side (hs : Side A B R) {x : σ} {y : τ} (hx : R x y) {L : List σ} {M : List τ} (h : Rel R L M) : ∀ i, idxG A x L i = idxG B y M i := by
  induction h with
  | nil => intro i; rfl
  | cons h1 _ ih =>
    intro i
    simp only [idxG]
    rw [hs.same _ _ _ _ h1 hx, ih]
theorem rowG_side (hs : Side A B R) {x : σ} {y : τ} (hx : R x y) {L : List σ} {M : List τ} (h : Rel R L M) : ∀ c, c ≤ 37 → Rel R (rowG A x L c).1 (rowG B y M c).1 ∧ (rowG A x L c).2 = (rowG B y M c).2
  | 0, _ => ⟨h, rfl⟩
  | c + 1, hc => by
    obtain ⟨h1, h2⟩ := rowG_side hs hx h c (by omega)
    have h3 := hs.step x y c (by omega) hx
    have h4 := idxG_side hs h3 h1 0
    have h5 := h1.length
    unfold rowG
    rw [hs.none _ _ h3]
    split
    · exact ⟨h1, by rw [h2]⟩
    · rw [h4]
      split
      · exact ⟨h1, by rw [h2]⟩
      · exact ⟨h1.snoc h3, by rw [h2, h5]⟩
theorem bfsG_side (hs : Side A B R) : ∀ {n k : Nat} {L : List σ} {M : List τ} {b : List Bool} {N : List (List Int)}, Rel R L M → bfsG A n L k b N = bfsG B n M k b N
  | 0, _, _, _, _, _, _ => rfl
  | n + 1, k, L, M, b, N, h => by
    unfold bfsG
    rcases h.get k with ⟨h1, h2⟩ | ⟨x, y, h1, h2, h3⟩
    · rw [h1, h2]
    · rw [h1, h2]
      obtain ⟨q1, q2⟩ := rowG_side hs h3 h 37 (Nat.le_refl _)
      simp only
      rw [q1.length, q2, hs.acc _ _ h3]
      split
      · rfl
      · exact bfsG_side hs q1
end
/-- The program's search is one of these. -/
def autP (ps : List Place) : Aut Pl := { step := fun S c => stepS ps S c, none := fun S => decide (keyS S = [0, 0]), acc := acceptS ps, same := fun S T => decide (keyS S = keyS T) }
theorem idx_G (ps : List Place) (S : Pl) : ∀ (L : List Pl) (i : Nat), idx S L i = idxG (autP ps) S L i
  | [], _ => rfl
  | T :: L, i => by simp only [idx, idxG, autP, decide_eq_true_eq]; rw [idx_G ps S L (i + 1)]; rfl
theorem row_G (ps : List Place) (S : Pl) (L : List Pl) : ∀ c, rowAt ps S L c = rowG (autP ps) S L c
  | 0 => rfl
  | c + 1 => by
    unfold rowAt rowG
    rw [row_G ps S L c]
    have e : (autP ps).step S c = stepS ps S c := rfl
    rw [e, ← idx_G]
    by_cases h : keyS (stepS ps S c) = [0, 0]
    · rw [if_pos h, if_pos (show (autP ps).none (stepS ps S c) = true from decide_eq_true h)]
    · rw [if_neg h, if_neg (show ¬ (autP ps).none (stepS ps S c) = true from fun h' => h (of_decide_eq_true h'))]
      rfl
theorem bfs_G (ps : List Place) : ∀ (n k : Nat) (L : List Pl) (b : List Bool) (N : List (List Int)), bfsM ps n L k b N = bfsG (autP ps) n L k b N
  | 0, _, _, _, _ => rfl
  | n + 1, k, L, b, N => by
    unfold bfsM bfsG
    by_cases h : k < L.length
    · rw [if_pos h, List.getElem?_eq_getElem h]
      have e : L.getD k noSet = L[k] := by simp [List.getD, List.getElem?_eq_getElem h]
      simp only [e]
      rw [row_G]
      split
      · rfl
      · rw [bfs_G]; rfl
    · rw [if_neg h, List.getElem?_eq_none (by omega)]
end Go.Proofs.Ytjnjmnfacaakfaa
namespace Go.Proofs.Ytjnjmnfacaakfaa
open Go.Eng
def clF (ps : List Place) (m : Nat) : Nat → Nat
  | 0 => m
  | i + 1 => if (clF ps m i).testBit i = true ∧ (ps.getD i dPlace).fMore ≠ 0 then clF ps m i ||| 2 ^ (i + 1) else clF ps m i
def closedF (ps : List Place) (m : Nat) : Nat := clF ps m ps.length
def spF (ps : List Place) (m : Nat) (c : Int) : Nat → Nat
  | 0 => 0
  | i + 1 => if m.testBit i = true ∧ bitOf (ps.getD i dPlace).fSet c = true then (if (ps.getD i dPlace).fMore = 42 then spF ps m c i ||| 2 ^ i else spF ps m c i ||| 2 ^ (i + 1)) else spF ps m c i
def stepF (ps : List Place) (m : Nat) (c : Int) : Nat := closedF ps (spF ps m c ps.length)
def accF (ps : List Place) (m : Nat) : Nat → Bool
  | 0 => false
  | i + 1 => accF ps m i || ((ps.getD i dPlace).fEnd && m.testBit i)
def autF (ps : List Place) : Aut Nat := { step := fun m c => stepF ps m c, none := fun m => m == 0, acc := fun m => accF ps m ps.length, same := fun m n => m == n }
def Bits (S : Pl) (m : Nat) : Prop := m < 2 ^ 128 ∧ ∀ i, i < 128 → S i = m.testBit i
theorem bits_upd {S : Pl} {m n : Nat} (h : Bits S m) (hn : n < 128) : Bits (upd S n true) (m ||| 2 ^ n) := by
  refine ⟨Nat.or_lt_two_pow h.1 (Nat.pow_lt_pow_right (by omega) hn), fun i hi => ?_⟩
  rw [Nat.testBit_or, Nat.testBit_two_pow]
  unfold upd
  by_cases hj : i = n
  · subst hj; simp
  · have : decide (n = i) = false := by simp; omega
    rw [this, if_neg hj, Bool.or_false]
    exact h.2 i hi
theorem cl_bits {ps : List Place} {S : Pl} {m : Nat} (h : Bits S m) : ∀ i, i ≤ 127 → Bits (cl ps S i) (clF ps m i)
  | 0, _ => h
  | i + 1, hi => by
    have ih := cl_bits (ps := ps) h i (by omega)
    unfold cl clF
    rw [ih.2 i (by omega)]
    split
    · exact bits_upd ih (by omega)
    · exact ih
theorem sp_bits {ps : List Place} {S : Pl} {m : Nat} {c : Int} (h : Bits S m) : ∀ i, i ≤ 127 → Bits (sp ps S c i) (spF ps m c i)
  | 0, _ => ⟨Nat.pos_of_ne_zero (by simp), fun i _ => by simp [sp, spF]⟩
  | i + 1, hi => by
    have ih := sp_bits (ps := ps) (c := c) h i (by omega)
    unfold sp spF
    rw [h.2 i (by omega)]
    split
    · split
      · exact bits_upd ih (by omega)
      · exact bits_upd ih (by omega)
    · exact ih
theorem acc_bits {ps : List Place} {S : Pl} {m : Nat} (h : Bits S m) : ∀ i, i ≤ 128 → acc ps S i = accF ps m i
  | 0, _ => rfl
  | i + 1, hi => by
    unfold acc accF
    rw [acc_bits h i (by omega), h.2 i (by omega)]
theorem key_same {S T : Pl} {m n : Nat} (h : Bits S m) (k : Bits T n) : keyS S = keyS T ↔ m = n := by
  constructor
  · intro e
    have e0 : setW S 0 = setW T 0 := congrArg (fun l => l.getD 0 0) e
    have e1 : setW S 1 = setW T 1 := congrArg (fun l => l.getD 1 0) e
    have e0 := wordN_inj (Int.ofNat.inj e0)
    have e1 := wordN_inj (Int.ofNat.inj e1)
    apply Nat.eq_of_testBit_eq
    intro i
    by_cases hi : i < 128
    · rw [← h.2 i hi, ← k.2 i hi]
      by_cases hj : i < 64
      · have := e0 i hj
        simpa using this
      · have : S (64 * 1 + (i - 64)) = T (64 * 1 + (i - 64)) := e1 (i - 64) (by omega)
        rwa [show 64 * 1 + (i - 64) = i by omega] at this
    · have hp : 2 ^ 128 ≤ 2 ^ i := Nat.pow_le_pow_right (by omega) (by omega)
      rw [Nat.testBit_lt_two_pow (Nat.lt_of_lt_of_le h.1 hp), Nat.testBit_lt_two_pow (Nat.lt_of_lt_of_le k.1 hp)]
  · rintro rfl
    have key : ∀ q, q < 2 → setW S q = setW T q := by
      intro q hq
      unfold setW
      congr 1
      exact wordN_congr fun i hi => by rw [h.2 _ (by omega), k.2 _ (by omega)]
    unfold keyS
    rw [key 0 (by omega), key 1 (by omega)]
theorem bits_none : Bits noSet 0 := ⟨Nat.pos_of_ne_zero (by simp), fun i _ => by simp [noSet]⟩
theorem keyS_none : keyS noSet = [0, 0] := by decide +kernel
theorem side_F {ps : List Place} (hp : ps.length ≤ 127) : Side (autP ps) (autF ps) Bits where
  step := fun S m c _ h => cl_bits (sp_bits h _ hp) _ hp
  none := fun S m h => by
    show decide (keyS S = [0, 0]) = (m == 0)
    rw [← keyS_none]
    have := key_same h bits_none
    by_cases e : m = 0
    · rw [decide_eq_true (this.2 e)]; simp [e]
    · rw [decide_eq_false (fun h' => e (this.1 h'))]; simp [e]
  acc := fun S m h => acc_bits h _ (by omega)
  same := fun S m S' m' h h' => by
    show decide (keyS S = keyS S') = (m == m')
    have := key_same h h'
    by_cases e : m = m'
    · rw [decide_eq_true (this.2 e)]; simp [e]
    · rw [decide_eq_false (fun h' => e (this.1 h'))]; simp [e]
def startF (st : List Int) : Nat → Nat
  | 0 => 0
  | i + 1 => startF st i ||| 2 ^ (st.getD i 0).toNat
theorem start_bits {st : List Int} (h : ∀ i, i < st.length → 0 ≤ st.getD i 0 ∧ st.getD i 0 < 128) : ∀ i, i ≤ st.length → Bits (startAt st i) (startF st i)
  | 0, _ => bits_none
  | i + 1, hi => bits_upd (start_bits h i (by omega)) (by have := h i (by omega); omega)
def langF (s : List UInt8) : Lang × Int := if 64 < s.length then (dLang, 2) else if (parseS s).isSome = false then (dLang, 5) else
  match bfsG (autF (plOf (parseS s))) 17 [closedF (plOf (parseS s)) (startF (stOf (parseS s)) (stOf (parseS s)).length)] 0 [] [] with
  | some l => (l, 0)
  | none => (dLang, 2)
theorem langS_F (s : List UInt8) : langS s = langF s := by
  unfold langS langF
  split
  · rfl
  · rename_i hs
    split
    · rfl
    · obtain ⟨h1, h2, h3⟩ := parseS_bound (s := s)
      have hp : (plOf (parseS s)).length ≤ 127 := by omega
      have hR : Bits (startS (parseS s)) (closedF (plOf (parseS s)) (startF (stOf (parseS s)) (stOf (parseS s)).length)) := cl_bits (start_bits (fun i hi => by have := h1 i hi; omega) _ (Nat.le_refl _)) _ hp
      rw [bfs_G, bfsG_side (side_F hp) (.cons hR .nil)]
      generalize bfsG (autF (plOf (parseS s))) 17 [closedF (plOf (parseS s)) (startF (stOf (parseS s)) (stOf (parseS s)).length)] 0 [] [] = q
      cases q <;> rfl
def pat1 : List UInt8 := [91, 97, 45, 99, 93, 43, 49, 63]
def lang1 : Lang := { Accept := [false, true, true], Next := [[1, 1, 1] ++ List.replicate 34 (-1), [1, 1, 1] ++ List.replicate 24 (-1) ++ [2] ++ List.replicate 9 (-1), List.replicate 37 (-1)] }
theorem ex1 : langS pat1 = (lang1, 0) := by rw [langS_F]; decide +kernel
def lang2 : Lang := { Accept := [true], Next := [List.replicate 23 (-1) ++ [0] ++ List.replicate 13 (-1)] }
theorem ex2 : langS [120, 42] = (lang2, 0) := by rw [langS_F]; decide +kernel
theorem ex3 : has lang1 [97, 98, 99, 97, 49] = true ∧ has lang1 [97] = true ∧ has lang1 [49] = false ∧ has lang1 [97, 49, 49] = false := by decide +kernel
theorem ex4 : statesS pat1 = 3 := by unfold statesS; rw [ex1]; decide +kernel
theorem ex5 : statesS [97, 98, 124, 97, 99] = 4 ∧ statesS [120, 42] = 1 ∧ 0 < statesS [91, 45, 97, 93, 98, 42, 124, 99] := by unfold statesS; simp only [langS_F]; decide +kernel
theorem ex6 : statesS [91, 97, 45, 93] = -5 ∧ statesS [97, 43, 43] = -5 ∧ statesS [91, 98, 45, 97, 93] = -5 ∧ statesS [] = -5 := by unfold statesS; simp only [langS_F]; decide +kernel
theorem ex7 : firstS lang1 5 = [[97], [98], [99], [97, 97], [97, 98]] := by decide +kernel
theorem ex8 : firstS lang2 3 = [[], [120], [120, 120]] := by decide +kernel
end Go.Proofs.Ytjnjmnfacaakfaa
namespace Go.Proofs.Ytjnjmnfacaakfaa
open Go.Eng
end Go.Proofs.Ytjnjmnfacaakfaa
namespace Go.Proofs.Ytjnjmnfacaakfaa
open Go.Eng
section
variable {σ : Type} {A : Aut σ}
/-- The words that a state of the automaton of sets accepts. -/
def accW (A : Aut σ) : σ → List UInt8 → Bool
  | x, [] => A.acc x
  | x, b :: w => decide (0 ≤ sym b.toNat) && accW A (A.step x (sym b.toNat).toNat) w
/-- Equal is what is found equal; a state that is none accepts nothing. -/
structure Lawful (A : Aut σ) : Prop where
  same : ∀ x y, A.same y x = true → y = x
  none : ∀ x, A.none x = true → ∀ w, accW A x w = false
/-- What is known of the states that are found, of which the first k have their rows. -/
structure Found (A : Aut σ) (x0 : σ) (L : List σ) (k : Nat) (B : List Bool) (N : List (List Int)) : Prop where
  lenB : B.length = k
  lenN : N.length = k
  le : k ≤ L.length
  zero : L[0]? = some x0
  acc : ∀ (j : Nat) x, j < k → L[j]? = some x → B.getD j false = A.acc x
  row : ∀ j, j < k → (N.getD j []).length = 37
  nxt : ∀ (j : Nat) x c, j < k → L[j]? = some x → c < 37 → ((N.getD j []).getD c 0 = -1 ∧ A.none (A.step x c) = true) ∨ ∃ i : Nat, (N.getD j []).getD c 0 = i ∧ L[i]? = some (A.step x c) ∧ A.none (A.step x c) = false
  reach : ∀ j, 0 < j → j < L.length → ∃ i c, i < j ∧ i < k ∧ c < 37 ∧ (N.getD i []).getD c 0 = j
theorem idxG_some (h : Lawful A) {x : σ} : ∀ {L : List σ} {i j : Nat}, idxG A x L i = some j → i ≤ j ∧ L[j - i]? = some x
  | [], i, j, e => by cases e
  | y :: L, i, j, e => by
    unfold idxG at e
    split at e
    · rename_i hs
      cases e
      rw [h.same _ _ hs]
      exact ⟨Nat.le_refl _, by simp⟩
    · obtain ⟨h1, h2⟩ := idxG_some h e
      refine ⟨by omega, ?_⟩
      obtain ⟨m, rfl⟩ : ∃ m, j = i + 1 + m := ⟨j - (i + 1), by omega⟩
      rw [show i + 1 + m - (i + 1) = m by omega] at h2
      rw [show i + 1 + m - i = m + 1 by omega]
      simpa using h2
theorem rowG_found (h : Lawful A) {x : σ} {L : List σ} : ∀ c, c ≤ 37 → (∃ z, (rowG A x L c).1 = L ++ z) ∧ (rowG A x L c).2.length = c ∧
    (∀ d, d < c → ((rowG A x L c).2.getD d 0 = -1 ∧ A.none (A.step x d) = true) ∨ ∃ i : Nat, (rowG A x L c).2.getD d 0 = i ∧ (rowG A x L c).1[i]? = some (A.step x d) ∧ A.none (A.step x d) = false) ∧
    (∀ j, L.length ≤ j → j < (rowG A x L c).1.length → ∃ d, d < c ∧ (rowG A x L c).2.getD d 0 = j)
  | 0, _ => ⟨⟨[], by simp [rowG]⟩, rfl, fun d hd => by omega, fun j h1 h2 => by simp [rowG] at h2; omega⟩
  | c + 1, hc => by
    obtain ⟨⟨z, e1⟩, e2, e3, e4⟩ := rowG_found h (x := x) (L := L) c (by omega)
    have g1 : ∀ (v : Int) d, d < c → ((rowG A x L c).2 ++ [v]).getD d 0 = (rowG A x L c).2.getD d 0 := fun v d hd => by
      rw [List.getD_eq_getElem?_getD, List.getD_eq_getElem?_getD, List.getElem?_append_left (by omega)]
    have g2 : ∀ v : Int, ((rowG A x L c).2 ++ [v]).getD c 0 = v := fun v => by
      rw [List.getD_eq_getElem?_getD, List.getElem?_append_right (by omega), e2, Nat.sub_self]; rfl
    unfold rowG
    split
    · rename_i hn
      refine ⟨⟨z, e1⟩, by simp [e2], fun d hd => ?_, fun j h1 h2 => ?_⟩
      · by_cases hdc : d = c
        · subst hdc
          exact .inl ⟨g2 _, hn⟩
        · have := e3 d (by omega)
          simp only [g1 _ d (by omega)]
          exact this
      · obtain ⟨d, d1, d2⟩ := e4 j h1 h2
        exact ⟨d, by omega, by simp only [g1 _ d d1]; exact d2⟩
    · rename_i hn
      have hn' : A.none (A.step x c) = false := by simpa using hn
      split
      · rename_i i hi
        obtain ⟨_, hs⟩ := idxG_some h hi
        rw [Nat.sub_zero] at hs
        refine ⟨⟨z, e1⟩, by simp [e2], fun d hd => ?_, fun j h1 h2 => ?_⟩
        · by_cases hdc : d = c
          · subst hdc
            exact .inr ⟨i, g2 _, hs, hn'⟩
          · simp only [g1 _ d (by omega)]
            exact e3 d (by omega)
        · obtain ⟨d, d1, d2⟩ := e4 j h1 h2
          exact ⟨d, by omega, by simp only [g1 _ d d1]; exact d2⟩
      · refine ⟨⟨z ++ [A.step x c], by simp [e1]⟩, by simp [e2], fun d hd => ?_, fun j h1 h2 => ?_⟩
        · by_cases hdc : d = c
          · subst hdc
            exact .inr ⟨_, g2 _, by simp, hn'⟩
          · simp only [g1 _ d (by omega)]
            rcases e3 d (by omega) with h1 | ⟨i, h1, h2, h3⟩
            · exact .inl h1
            · refine .inr ⟨i, h1, ?_, h3⟩
              rw [List.getElem?_append_left (List.getElem?_eq_some_iff.1 h2).1]
              exact h2
        · simp only [List.length_append, List.length_cons, List.length_nil] at h2
          by_cases hj : j = (rowG A x L c).1.length
          · exact ⟨c, by omega, by rw [hj]; exact g2 _⟩
          · obtain ⟨d, d1, d2⟩ := e4 j h1 (by omega)
            exact ⟨d, by omega, by simp only [g1 _ d d1]; exact d2⟩
theorem Found.next (h : Lawful A) {x0 x : σ} {L : List σ} {k : Nat} {B : List Bool} {N : List (List Int)} (hf : Found A x0 L k B N) (hx : L[k]? = some x) :
    Found A x0 (rowG A x L 37).1 (k + 1) (B ++ [A.acc x]) (N ++ [(rowG A x L 37).2]) := by
  obtain ⟨⟨z, e1⟩, e2, e3, e4⟩ := rowG_found h (x := x) (L := L) 37 (Nat.le_refl _)
  have hk := (List.getElem?_eq_some_iff.1 hx).1
  have gL : ∀ j, j < L.length → (rowG A x L 37).1[j]? = L[j]? := fun j hj => by rw [e1, List.getElem?_append_left hj]
  have gN : ∀ j, j < k → (N ++ [(rowG A x L 37).2]).getD j [] = N.getD j [] := fun j hj => by
    rw [List.getD_eq_getElem?_getD, List.getD_eq_getElem?_getD, List.getElem?_append_left (by rw [hf.lenN]; exact hj)]
  have gN2 : (N ++ [(rowG A x L 37).2]).getD k [] = (rowG A x L 37).2 := by
    rw [List.getD_eq_getElem?_getD, List.getElem?_append_right (by rw [hf.lenN]; exact Nat.le_refl _), hf.lenN, Nat.sub_self]; rfl
  have gB : ∀ j, j < k → (B ++ [A.acc x]).getD j false = B.getD j false := fun j hj => by
    rw [List.getD_eq_getElem?_getD, List.getD_eq_getElem?_getD, List.getElem?_append_left (by rw [hf.lenB]; exact hj)]
  have gB2 : (B ++ [A.acc x]).getD k false = A.acc x := by
    rw [List.getD_eq_getElem?_getD, List.getElem?_append_right (by rw [hf.lenB]; exact Nat.le_refl _), hf.lenB, Nat.sub_self]; rfl
  have hlen : L.length ≤ (rowG A x L 37).1.length := by rw [e1]; simp
  refine ⟨by simp [hf.lenB], by simp [hf.lenN], by omega, by rw [gL 0 (by omega)]; exact hf.zero, fun j y hj hy => ?_, fun j hj => ?_, fun j y c hj hy hc => ?_, fun j h0 hj => ?_⟩
  · by_cases hjk : j = k
    · subst hjk
      rw [gL j hk, hx] at hy
      cases hy
      exact gB2
    · rw [gL j (by omega)] at hy
      rw [gB j (by omega)]
      exact hf.acc j y (by omega) hy
  · by_cases hjk : j = k
    · subst hjk; rw [gN2]; exact e2
    · rw [gN j (by omega)]; exact hf.row j (by omega)
  · by_cases hjk : j = k
    · subst hjk
      rw [gL j hk, hx] at hy
      cases hy
      rw [gN2]
      exact e3 c hc
    · rw [gL j (by omega)] at hy
      rw [gN j (by omega)]
      rcases hf.nxt j y c (by omega) hy hc with h1 | ⟨i, h1, h2, h3⟩
      · exact .inl h1
      · refine .inr ⟨i, h1, ?_, h3⟩
        rw [gL i (List.getElem?_eq_some_iff.1 h2).1]
        exact h2
  · by_cases hjL : j < L.length
    · obtain ⟨i, c, h1, h2, h3, h4⟩ := hf.reach j h0 hjL
      exact ⟨i, c, h1, by omega, h3, by rw [gN i h2]; exact h4⟩
    · obtain ⟨d, d1, d2⟩ := e4 j (by omega) hj
      exact ⟨k, d, by omega, by omega, d1, by rw [gN2]; exact d2⟩
theorem bfsG_found (h : Lawful A) {x0 : σ} : ∀ {n : Nat} {L : List σ} {k : Nat} {B : List Bool} {N : List (List Int)} {l : Lang}, L.length ≤ 16 → Found A x0 L k B N → bfsG A n L k B N = some l →
    ∃ L', L'.length ≤ 16 ∧ Found A x0 L' L'.length l.Accept l.Next
  | 0, _, _, _, _, _, _, _, e => by cases e
  | n + 1, L, k, B, N, l, hL, hf, e => by
    unfold bfsG at e
    split at e
    · rename_i x hx
      split at e
      · cases e
      · exact bfsG_found h (by omega) (hf.next h hx) e
    · rename_i hx
      cases e
      have : k = L.length := by
        have := List.getElem?_eq_none_iff.1 hx
        have := hf.le
        omega
      subst this
      exact ⟨L, hL, hf⟩
/-- What the search ends with is an automaton. -/
theorem Found.check {x0 : σ} {L : List σ} {l : Lang} (hf : Found A x0 L L.length l.Accept l.Next) (hL : L.length ≤ 16) : check l = 0 := by
  have h0 := (List.getElem?_eq_some_iff.1 hf.zero).1
  have h1 := hf.lenB
  have h2 := hf.lenN
  unfold Go.Proofs.Ytjnjmnfacaakfaa.check
  rw [if_neg (by omega), if_neg (by omega), if_pos]
  intro j hj
  refine ⟨hf.row j (by omega), fun c hc => ?_⟩
  rw [hf.row j (by omega)] at hc
  rcases hf.nxt j (L[j]'(by omega)) c (by omega) (List.getElem?_eq_getElem (by omega)) hc with h3 | ⟨i, h3, h4, _⟩
  · omega
  · have := (List.getElem?_eq_some_iff.1 h4).1
    omega
theorem found_start (x0 : σ) : Found A x0 [x0] 0 [] [] where
  lenB := rfl
  lenN := rfl
  le := Nat.zero_le _
  zero := rfl
  acc := fun j x hj => by omega
  row := fun j hj => by omega
  nxt := fun j x c hj => by omega
  reach := fun j h0 hj => by simp at hj; omega
end
/-! ### The program's own -/
theorem spF_zero (ps : List Place) (c : Int) : ∀ i, spF ps 0 c i = 0
  | 0 => rfl
  | i + 1 => by
    unfold spF
    rw [if_neg (by simp), spF_zero ps c i]
theorem clF_zero (ps : List Place) : ∀ i, clF ps 0 i = 0
  | 0 => rfl
  | i + 1 => by
    unfold clF
    rw [clF_zero ps i, if_neg (by simp)]
theorem accF_zero (ps : List Place) : ∀ i, accF ps 0 i = false
  | 0 => rfl
  | i + 1 => by
    unfold accF
    rw [accF_zero ps i]
    simp
theorem accW_zero (ps : List Place) : ∀ w, accW (autF ps) 0 w = false
  | [] => accF_zero ps _
  | b :: w => by
    rw [accW, show (autF ps).step 0 (sym b.toNat).toNat = 0 from by show clF ps (spF ps 0 _ _) _ = 0; rw [spF_zero, clF_zero], accW_zero ps w, Bool.and_false]
theorem lawfulF (ps : List Place) : Lawful (autF ps) where
  same := fun x y h => by simpa [autF] using h
  none := fun x h w => by
    have : x = 0 := by simpa [autF] using h
    subst this
    exact accW_zero ps w
/-- A pattern's automaton: of which states its own are, and what it accepts. -/
theorem langS_found {s : List UInt8} {l : Lang} (h : langS s = (l, 0)) : ∃ (m : Nat) (L : List Nat), Bits (startS (parseS s)) m ∧ s.length ≤ 64 ∧ (parseS s).isSome = true ∧ L.length ≤ 16 ∧ Found (autF (plOf (parseS s))) m L L.length l.Accept l.Next := by
  rw [langS_F] at h
  unfold langF at h
  split at h
  · cases h
  · rename_i hs
    split at h
    · cases h
    · rename_i h0
      split at h
      · rename_i l' hb
        cases h
        obtain ⟨h1, h2, h3⟩ := parseS_bound (s := s)
        have hp : (plOf (parseS s)).length ≤ 127 := by omega
        have hR : Bits (startS (parseS s)) (closedF (plOf (parseS s)) (startF (stOf (parseS s)) (stOf (parseS s)).length)) := cl_bits (start_bits (fun i hi => by have := h1 i hi; omega) _ (Nat.le_refl _)) _ hp
        obtain ⟨L', h4, h5⟩ := bfsG_found (lawfulF _) (by simp) (found_start _) hb
        exact ⟨_, L', hR, by omega, by cases h6 : (parseS s).isSome <;> simp_all, h4, h5⟩
      · cases h
theorem langS_check {s : List UInt8} {l : Lang} (h : langS s = (l, 0)) : check l = 0 := by
  obtain ⟨m, L, h1, h2, h3, h4, h5⟩ := langS_found h
  exact h5.check h4
end Go.Proofs.Ytjnjmnfacaakfaa
namespace Go.Proofs.Ytjnjmnfacaakfaa
open Go.Eng
section
variable {ps : List Place} {S : Pl}
/-- From place i one comes to place j without a symbol. -/
def Chain (ps : List Place) (i j n : Nat) : Prop := ∀ k, i ≤ k → k < j → k < n ∧ (ps.getD k dPlace).fMore ≠ 0
theorem cl_iff : ∀ (n j : Nat), cl ps S n j = true ↔ ∃ i, i ≤ j ∧ S i = true ∧ Chain ps i j n
  | 0, j => by
    constructor
    · intro h
      exact ⟨j, Nat.le_refl _, h, fun k h1 h2 => by omega⟩
    · rintro ⟨i, h1, h2, h3⟩
      have : i = j := by
        by_cases h : i < j
        · have := (h3 i (Nat.le_refl _) h).1; omega
        · omega
      subst this
      exact h2
  | n + 1, j => by
    unfold cl
    split
    · rename_i hc
      obtain ⟨i0, a1, a2, a3⟩ := (cl_iff n n).1 hc.1
      unfold upd
      by_cases hj : j = n + 1
      · rw [if_pos hj]
        refine ⟨fun _ => ⟨i0, by omega, a2, fun k h1 h2 => ?_⟩, fun _ => rfl⟩
        by_cases hk : k = n
        · subst hk; exact ⟨by omega, hc.2⟩
        · have := a3 k h1 (by omega); exact ⟨by omega, this.2⟩
      · rw [if_neg hj, cl_iff n j]
        constructor
        · rintro ⟨i, h1, h2, h3⟩
          exact ⟨i, h1, h2, fun k k1 k2 => ⟨by have := (h3 k k1 k2).1; omega, (h3 k k1 k2).2⟩⟩
        · rintro ⟨i, h1, h2, h3⟩
          refine ⟨i, h1, h2, fun k k1 k2 => ⟨?_, (h3 k k1 k2).2⟩⟩
          have := (h3 k k1 k2).1
          have := (h3 (j - 1) (by omega) (by omega)).1
          omega
    · rename_i hc
      rw [cl_iff n j]
      constructor
      · rintro ⟨i, h1, h2, h3⟩
        exact ⟨i, h1, h2, fun k k1 k2 => ⟨by have := (h3 k k1 k2).1; omega, (h3 k k1 k2).2⟩⟩
      · rintro ⟨i, h1, h2, h3⟩
        refine ⟨i, h1, h2, fun k k1 k2 => ⟨?_, (h3 k k1 k2).2⟩⟩
        have q1 := (h3 k k1 k2).1
        by_cases hk : k = n
        · exfalso
          subst hk
          refine hc ⟨(cl_iff k k).2 ⟨i, k1, h2, fun m m1 m2 => ⟨m2, (h3 m m1 (by omega)).2⟩⟩, (h3 k k1 k2).2⟩
        · omega
theorem closedS_iff (j : Nat) : closedS ps S j = true ↔ ∃ i, i ≤ j ∧ S i = true ∧ Chain ps i j ps.length := cl_iff _ _
theorem acc_iff : ∀ n, acc ps S n = true ↔ ∃ j, j < n ∧ (ps.getD j dPlace).fEnd = true ∧ S j = true
  | 0 => by simp [acc]
  | n + 1 => by
    unfold acc
    rw [Bool.or_eq_true, acc_iff n, Bool.and_eq_true]
    constructor
    · rintro (⟨j, h1, h2⟩ | h)
      · exact ⟨j, by omega, h2⟩
      · exact ⟨n, by omega, h⟩
    · rintro ⟨j, h1, h2⟩
      by_cases hj : j = n
      · subst hj; exact .inr h2
      · exact .inl ⟨j, by omega, h2⟩
/-- The place behind a symbol that place i has. -/
def nxt (ps : List Place) (i : Nat) : Nat := if (ps.getD i dPlace).fMore = 42 then i else i + 1
theorem sp_iff {c : Int} : ∀ (n j : Nat), sp ps S c n j = true ↔ ∃ i, i < n ∧ S i = true ∧ bitOf (ps.getD i dPlace).fSet c = true ∧ j = nxt ps i
  | 0, j => by simp [sp]
  | n + 1, j => by
    have key : sp ps S c (n + 1) j = true ↔ (sp ps S c n j = true ∨ (S n = true ∧ bitOf (ps.getD n dPlace).fSet c = true ∧ j = nxt ps n)) := by
      rw [sp]
      by_cases hc : S n = true ∧ bitOf (ps.getD n dPlace).fSet c = true
      · rw [if_pos hc]
        unfold nxt
        by_cases hm : (ps.getD n dPlace).fMore = 42
        · rw [if_pos hm, if_pos hm]
          unfold upd
          by_cases hj : j = n
          · rw [if_pos hj]; exact ⟨fun _ => .inr ⟨hc.1, hc.2, hj⟩, fun _ => rfl⟩
          · rw [if_neg hj]; exact ⟨.inl, fun h => h.elim id fun h => absurd h.2.2 hj⟩
        · rw [if_neg hm, if_neg hm]
          unfold upd
          by_cases hj : j = n + 1
          · rw [if_pos hj]; exact ⟨fun _ => .inr ⟨hc.1, hc.2, hj⟩, fun _ => rfl⟩
          · rw [if_neg hj]; exact ⟨.inl, fun h => h.elim id fun h => absurd h.2.2 hj⟩
      · rw [if_neg hc]
        exact ⟨.inl, fun h => h.elim id fun h => absurd ⟨h.1, h.2.1⟩ hc⟩
    rw [key, sp_iff n j]
    constructor
    · rintro (⟨i, h1, h2⟩ | h)
      · exact ⟨i, by omega, h2⟩
      · exact ⟨n, by omega, h⟩
    · rintro ⟨i, h1, h2⟩
      by_cases hi : i = n
      · subst hi; exact .inr h2
      · exact .inl ⟨i, by omega, h2⟩
end
theorem startAt_iff {st : List Int} : ∀ (n j : Nat), startAt st n j = true ↔ ∃ i, i < n ∧ (st.getD i 0).toNat = j
  | 0, j => by simp [startAt, noSet]
  | n + 1, j => by
    unfold startAt upd
    by_cases hj : j = (st.getD n 0).toNat
    · rw [if_pos hj]
      exact ⟨fun _ => ⟨n, by omega, hj.symm⟩, fun _ => rfl⟩
    · rw [if_neg hj, startAt_iff n j]
      constructor
      · rintro ⟨i, h1, h2⟩
        exact ⟨i, by omega, h2⟩
      · rintro ⟨i, h1, h2⟩
        by_cases hi : i = n
        · subst hi; exact absurd h2.symm hj
        · exact ⟨i, by omega, h2⟩
end Go.Proofs.Ytjnjmnfacaakfaa
namespace Go.Proofs.Ytjnjmnfacaakfaa
open Go.Eng
/-- The places of a pattern, branch by branch; cur: those of the branch that is under way. -/
def parseB : Nat → List Place → List UInt8 → Option (List (List Place))
  | 0, _, _ => none
  | n + 1, cur, r => if r = [] ∨ ((r.getD 0 0).toNat : Int) = 124 then
      (if cur = [] then none else if r = [] then some [cur ++ [endP]] else (parseB n [] (r.drop 1)).map fun bs => (cur ++ [endP]) :: bs)
    else if (pSet r).isSome = true then
      (if pMore (pSet r) = 43 then parseB n (cur ++ [({ fSet := cSet (pSet r) } : Place)] ++ [({ fSet := cSet (pSet r), fMore := 42 } : Place)]) (pRest (pSet r))
        else parseB n (cur ++ [({ fSet := cSet (pSet r), fMore := pMore (pSet r) } : Place)]) (pRest (pSet r)))
    else none
def branchesS (s : List UInt8) : Option (List (List Place)) := parseB (s.length + 1) [] s
def offs : Nat → List (List Place) → List Int
  | _, [] => []
  | d, b :: bs => (d : Int) :: offs (d + b.length) bs
theorem parseB_ne : ∀ {k : Nat} {cur : List Place} {r : List UInt8} {bs : List (List Place)}, parseB k cur r = some bs → bs ≠ []
  | 0, _, _, _, h => by cases h
  | k + 1, cur, r, bs, h => by
    unfold parseB at h
    split at h
    · split at h
      · cases h
      · split at h
        · cases h; simp
        · rw [Option.map_eq_some_iff] at h
          obtain ⟨y, _, rfl⟩ := h
          simp
    · split at h
      · split at h
        · exact parseB_ne h
        · exact parseB_ne h
      · cases h
theorem parseM_B : ∀ {k : Nat} {dn cur : List Place} {st : List Int} {r : List UInt8}, 0 < st.length → st.getD (st.length - 1) 0 = (dn.length : Int) →
    parseM k (dn ++ cur) st r = (parseB k cur r).map fun bs => (dn ++ bs.flatten, st ++ (offs dn.length bs).tail)
  | 0, _, _, _, _, _, _ => rfl
  | k + 1, dn, cur, st, r, h0, h1 => by
    unfold parseM parseB
    have e1 : (((st.length : Nat) : Int) - 1).toNat = st.length - 1 := by omega
    rw [e1, h1]
    by_cases hr : r = [] ∨ ((r.getD 0 0).toNat : Int) = 124
    · rw [if_pos hr, if_pos hr]
      by_cases hc : cur = []
      · subst hc
        rw [if_pos (by simp), if_pos rfl]; rfl
      · have hcl := List.length_pos_iff.2 hc
        rw [if_neg (by simp; omega), if_neg hc]
        by_cases hn : r = []
        · rw [if_pos hn, if_pos hn]
          simp [offs]
        · rw [if_neg hn, if_neg hn]
          have ih := parseM_B (k := k) (dn := dn ++ cur ++ [endP]) (cur := []) (st := st ++ [(((dn ++ cur ++ [endP]).length : Nat) : Int)]) (r := r.drop 1) (by simp)
            (by simp [List.getD_eq_getElem?_getD])
          rw [List.append_nil] at ih
          rw [ih]
          cases hb : parseB k [] (r.drop 1) with
          | none => rfl
          | some bs =>
            cases bs with
            | nil => exact absurd rfl (parseB_ne hb)
            | cons b bs =>
              simp only [Option.map_some, List.flatten_cons, List.append_assoc, offs, List.tail_cons, List.length_append, List.length_cons, List.length_nil, List.cons_append, List.nil_append, Option.some.injEq, Prod.mk.injEq, true_and, Nat.zero_add]
    · rw [if_neg hr, if_neg hr]
      by_cases hs : (pSet r).isSome = true
      · rw [if_pos hs, if_pos hs]
        by_cases hm : pMore (pSet r) = 43
        · rw [if_pos hm, if_pos hm]
          have ih := parseM_B (k := k) (dn := dn) (cur := cur ++ [({ fSet := cSet (pSet r) } : Place)] ++ [({ fSet := cSet (pSet r), fMore := 42 } : Place)]) (st := st) (r := pRest (pSet r)) h0 h1
          rw [← ih]
          simp only [List.append_assoc]
        · rw [if_neg hm, if_neg hm]
          have ih := parseM_B (k := k) (dn := dn) (cur := cur ++ [({ fSet := cSet (pSet r), fMore := pMore (pSet r) } : Place)]) (st := st) (r := pRest (pSet r)) h0 h1
          rw [← ih]
          simp only [List.append_assoc]
      · rw [if_neg hs, if_neg hs]; rfl
theorem parseS_B (s : List UInt8) : parseS s = (branchesS s).map fun bs => (bs.flatten, offs 0 bs) := by
  have h := parseM_B (k := s.length + 1) (dn := []) (cur := []) (st := [0]) (r := s) (by simp) rfl
  unfold parseS branchesS
  rw [List.append_nil] at h
  rw [h]
  cases hb : parseB (s.length + 1) [] s with
  | none => rfl
  | some bs =>
    cases bs with
    | nil => exact absurd rfl (parseB_ne hb)
    | cons b bs => simp [offs]
/-! ### A branch alone -/
theorem bit0 (c : Nat) : bitOf 0 c = false := by
  unfold bitOf
  have : (0 : Int).fdiv (2 ^ min (c : Int).toNat (IntKind.bits .u64)) = 0 := Int.zero_fdiv _
  rw [this]
  rfl
/-! ### A bar between two patterns -/
end Go.Proofs.Ytjnjmnfacaakfaa
namespace Go.Proofs.Ytjnjmnfacaakfaa
open Go.Eng
end Go.Proofs.Ytjnjmnfacaakfaa
