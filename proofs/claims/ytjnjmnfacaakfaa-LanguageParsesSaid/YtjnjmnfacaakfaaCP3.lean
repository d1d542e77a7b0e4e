/-
  LanguageParses: whatever the input, the call returns true, and each argument reads afterwards as it read before. (Part 3 of 9 of its proof.)
-/
import Derived.Test.YtjnjmnfacaakfaaCP2
import Derived.Test.YtjnjmnfacaakfaaRows
import Derived.Lib.Walk
import Derived.Lib.Bytealg
namespace Go.Proofs.Ytjnjmnfacaakfaa
open Go.Eng
structure Lang where
  Accept : (List Bool) := []
  Next : (List (List Int)) := []
deriving DecidableEq
def dLang : Lang := {}
def eLang (x : Lang) : PV := .agg [(eL eB 1 false) x.Accept, (eL (eL eI 1 0) 1 []) x.Next]
def okRow (n : Nat) (row : List Int) : Prop := row.length = 37 ∧ ∀ k, k < row.length → -1 ≤ row.getD k 0 ∧ row.getD k 0 < n
instance (n : Nat) (row : List Int) : Decidable (okRow n row) := inferInstanceAs (Decidable (_ ∧ _))
def OkNext (n : Nat) (l : List (List Int)) : Prop := ∀ j, j < l.length → okRow n (l.getD j [])
instance (n : Nat) (l : List (List Int)) : Decidable (OkNext n l) := inferInstanceAs (Decidable (∀ j, j < l.length → okRow n (l.getD j [])))
def check (l : Lang) : Int := if l.Accept.length < 1 ∨ 16 < l.Accept.length then 2 else if l.Next.length ≠ l.Accept.length then 5 else if OkNext l.Accept.length l.Next then 0 else 5
theorem check_ok (l : Lang) : Pure Try.prog 20 [eLang l] (vint .i64 (check l)) := by
  refine pure_of (fn := Try.f20) Try.func20 rfl rfl fun F_ W0_ => ?_
  refine tr_seq ?_
  refine tr_r (vc := []) (E' := [(1, none, .ref 0 [])]) (H' := [.box (.p (eLang l))]) [] [] [1] (by kernel_rfl) ?_ ?_
  · exact trivial
  refine tr_then (tr_seq ?_)
  refine tr_seq ?_
  refine tr_r (vc := [(!(decide (((l.Accept.length : Nat) : Int) < 1))) = true → (!(decide (((l.Accept.length : Nat) : Int) < 1))) = true, (!(decide (((l.Accept.length : Nat) : Int) < 1))) = true → (!(decide (((l.Accept.length : Nat) : Int) < 1))) = true, (!(decide (((l.Accept.length : Nat) : Int) < 1))) = true → (!(decide (((l.Accept.length : Nat) : Int) < 1))) = true, (!(decide (((l.Accept.length : Nat) : Int) < 1))) = true → (!(decide (((l.Accept.length : Nat) : Int) < 1))) = true]) (E' := [(1, none, .ref 0 []), (16, none, vbool ((decide (((l.Accept.length : Nat) : Int) < 1)) || (decide (16 < ((l.Accept.length : Nat) : Int)))))]) (H' := [.box (.p (eLang l))]) [] [] [1, 16] (by kernel_rfl) ?_ ?_
  · refine al ?_ (al ?_ (al ?_ (al ?_ (trivial))))
    · exact id
    · exact id
    · exact id
    · exact id
  refine tr_then ?_
  refine tr_condP ((decide (((l.Accept.length : Nat) : Int) < 1)) || (decide (16 < ((l.Accept.length : Nat) : Int)))) ((((l.Accept.length : Nat) : Int) < 1) ∨ (16 < ((l.Accept.length : Nat) : Int))) (by simp) (by kernel_rfl) (fun hc1 => ?_) (fun hc1 => ?_)
  · skip
    refine tr_seq ?_
    refine tr_r (vc := []) (E' := [(2, none, vint .i64 2)]) (H' := [.box (.p (eLang l))]) [] [] [2] (by kernel_rfl) ?_ ?_
    · exact trivial
    refine tr_then ?_
    refine tr_pre (E' := [(2, none, vint .i64 2)]) (H' := []) (fun A_ W_ hS => sl_weak (vc := []) [] [2] (by kernel_rfl) trivial hS) ?_
    refine tr_pre (E' := (2, none, vint .i64 (check l)) :: [(2, none, vint .i64 2)]) (H' := []) (fun A_ W_ hS => sl_set_imp (d := vint .i64 2) 2 (vint .i64 (check l)) (by kernel_rfl) ?_ hS) ?_
    · refine imp_eq (congrArg (fun x => D.p (eI x)) (a₁ := 2) (a₂ := (check l)) ?_)
      rw [check, if_pos (by omega)]
    refine tr_pre (E' := [(2, none, vint .i64 (check l))]) (H' := []) (fun A_ W_ hS => sl_proj (ts := [2]) (by kernel_rfl) hS) ?_
    exact tr_return' (vc := []) (ds := [vint .i64 (check l)]) (by kernel_rfl) trivial (by kernel_rfl) (fun _ _ h => h)
  · skip
    refine tr_skip ?_
    refine tr_then (tr_seq ?_)
    refine tr_seq ?_
    refine tr_r (vc := []) (E' := [(1, none, .ref 0 []), (23, none, vbool (((l.Next.length : Nat) : Int) != ((l.Accept.length : Nat) : Int)))]) (H' := [.box (.p (eLang l))]) [] [] [1, 23] (by kernel_rfl) ?_ ?_
    · exact trivial
    refine tr_then ?_
    refine tr_condP (((l.Next.length : Nat) : Int) != ((l.Accept.length : Nat) : Int)) (((l.Next.length : Nat) : Int) ≠ ((l.Accept.length : Nat) : Int)) (by simp) (by kernel_rfl) (fun hc2 => ?_) (fun hc2 => ?_)
    · skip
      refine tr_seq ?_
      refine tr_r (vc := []) (E' := [(2, none, vint .i64 5)]) (H' := [.box (.p (eLang l))]) [] [] [2] (by kernel_rfl) ?_ ?_
      · exact trivial
      refine tr_then ?_
      refine tr_pre (E' := [(2, none, vint .i64 5)]) (H' := []) (fun A_ W_ hS => sl_weak (vc := []) [] [2] (by kernel_rfl) trivial hS) ?_
      refine tr_pre (E' := (2, none, vint .i64 (check l)) :: [(2, none, vint .i64 5)]) (H' := []) (fun A_ W_ hS => sl_set_imp (d := vint .i64 5) 2 (vint .i64 (check l)) (by kernel_rfl) ?_ hS) ?_
      · refine imp_eq (congrArg (fun x => D.p (eI x)) (a₁ := 5) (a₂ := (check l)) ?_)
        rw [check, if_neg (by omega), if_pos (by omega)]
      refine tr_pre (E' := [(2, none, vint .i64 (check l))]) (H' := []) (fun A_ W_ hS => sl_proj (ts := [2]) (by kernel_rfl) hS) ?_
      exact tr_return' (vc := []) (ds := [vint .i64 (check l)]) (by kernel_rfl) trivial (by kernel_rfl) (fun _ _ h => h)
    · skip
      refine tr_skip ?_
      refine tr_then (tr_seq ?_)
      refine tr_seq ?_
      refine tr_r (vc := []) (E' := [(1, none, .ref 0 []), (25, none, .p ((eL (eL eI 1 0) 1 []) l.Next)), (26, none, vint .i64 ((l.Next.length : Nat) : Int)), (27, none, vint .i64 0)]) (H' := [.box (.p (eLang l))]) [] [] [1, 25, 26, 27] (by kernel_rfl) ?_ ?_
      · exact trivial
      refine tr_then ?_
      refine tr_block ?_
      refine tr_loop (α := Nat) (fun z : Nat => (fun (i : Nat) => [(1, none, .ref 0 []), (25, none, .p ((eL (eL eI 1 0) 1 []) l.Next)), (26, none, vint .i64 ((l.Next.length : Nat) : Int)), (27, none, vint .i64 ((i : Nat) : Int))]) z) (fun z : Nat => (fun (i : Nat) => [.box (.p (eLang l))]) z) (fun z : Nat => (fun (i : Nat) => (i ≤ l.Next.length) ∧ (∀ j, j < i → okRow l.Accept.length (l.Next.getD j []))) z) (fun z : Nat => (fun (i : Nat) => l.Next.length - i) z) 0 ?_ ?_ ?_
      · show (0 ≤ l.Next.length) ∧ (∀ j, j < 0 → okRow l.Accept.length (l.Next.getD j []))
        refine ⟨?_, ?_⟩
        · omega
        · omega
      · intro A_ W_ hS
        replace hS := sl_set (d := vint .i64 0) 27 (vint .i64 ((0 : Nat) : Int)) (by kernel_rfl) (eqD_int (by omega)) hS
        exact sl_weak (vc := []) [0] [1, 25, 26, 27] (by kernel_rfl) trivial hS
      · intro z hz
        revert z; intro i hz
        have hz : (i ≤ l.Next.length) ∧ (∀ j, j < i → okRow l.Accept.length (l.Next.getD j [])) := hz
        obtain ⟨hi0_0, hi0_1⟩ := hz
        refine tr_seq ?_
        refine tr_r (vc := []) (E' := [(1, none, .ref 0 []), (25, none, .p ((eL (eL eI 1 0) 1 []) l.Next)), (26, none, vint .i64 ((l.Next.length : Nat) : Int)), (27, none, vint .i64 ((i : Nat) : Int)), (28, none, vbool (decide (((i : Nat) : Int) < ((l.Next.length : Nat) : Int))))]) (H' := [.box (.p (eLang l))]) [] [] [1, 25, 26, 27, 28] (by kernel_rfl) ?_ ?_
        · exact trivial
        refine tr_then (tr_seq ?_)
        refine tr_condP (decide (((i : Nat) : Int) < ((l.Next.length : Nat) : Int))) (((i : Nat) : Int) < ((l.Next.length : Nat) : Int)) (by simp) (by kernel_rfl) (fun hc3 => ?_) (fun hc3 => ?_)
        · skip
          refine tr_skip ?_
          refine tr_then (tr_seq ?_)
          refine tr_block ?_
          refine tr_seq ?_
          refine tr_r (vc := [(0 : Int) ≤ ((i : Nat) : Int), ((i : Nat) : Int) < (l.Next.length : Int)]) (E' := [(1, none, .ref 0 []), (4, none, .p ((eL eI 1 0) (l.Next.getD i []))), (25, none, .p ((eL (eL eI 1 0) 1 []) l.Next)), (26, none, vint .i64 ((l.Next.length : Nat) : Int)), (27, none, vint .i64 ((i : Nat) : Int))]) (H' := [.box (.p (eLang l))]) [] [] [1, 4, 25, 26, 27] (by kernel_rfl) ?_ ?_
          · refine al ?_ (al ?_ (trivial))
            · omega
            · omega
          refine tr_then (tr_seq ?_)
          refine tr_seq ?_
          refine tr_r (vc := []) (E' := [(1, none, .ref 0 []), (4, none, .p ((eL eI 1 0) (l.Next.getD i []))), (25, none, .p ((eL (eL eI 1 0) 1 []) l.Next)), (26, none, vint .i64 ((l.Next.length : Nat) : Int)), (27, none, vint .i64 ((i : Nat) : Int)), (33, none, vbool ((((l.Next.getD i []).length : Nat) : Int) != 37))]) (H' := [.box (.p (eLang l))]) [] [] [1, 4, 25, 26, 27, 33] (by kernel_rfl) ?_ ?_
          · exact trivial
          refine tr_then ?_
          refine tr_condP ((((l.Next.getD i []).length : Nat) : Int) != 37) ((((l.Next.getD i []).length : Nat) : Int) ≠ 37) (by simp) (by kernel_rfl) (fun hc4 => ?_) (fun hc4 => ?_)
          · skip
            refine tr_seq ?_
            refine tr_r (vc := []) (E' := [(2, none, vint .i64 5)]) (H' := [.box (.p (eLang l))]) [] [] [2] (by kernel_rfl) ?_ ?_
            · exact trivial
            refine tr_then ?_
            refine tr_pre (E' := [(2, none, vint .i64 5)]) (H' := []) (fun A_ W_ hS => sl_weak (vc := []) [] [2] (by kernel_rfl) trivial hS) ?_
            refine tr_pre (E' := (2, none, vint .i64 (check l)) :: [(2, none, vint .i64 5)]) (H' := []) (fun A_ W_ hS => sl_set_imp (d := vint .i64 5) 2 (vint .i64 (check l)) (by kernel_rfl) ?_ hS) ?_
            · refine imp_eq (congrArg (fun x => D.p (eI x)) (a₁ := 5) (a₂ := (check l)) ?_)
              rw [check, if_neg (by omega), if_neg (by omega), if_neg (fun h => by have := (h i (by omega)).1; omega)]
            refine tr_pre (E' := [(2, none, vint .i64 (check l))]) (H' := []) (fun A_ W_ hS => sl_proj (ts := [2]) (by kernel_rfl) hS) ?_
            exact tr_return' (vc := []) (ds := [vint .i64 (check l)]) (by kernel_rfl) trivial (by kernel_rfl) (fun _ _ h => h)
          · skip
            refine tr_skip ?_
            refine tr_then (tr_seq ?_)
            refine tr_r (vc := []) (E' := [(1, none, .ref 0 []), (25, none, .p ((eL (eL eI 1 0) 1 []) l.Next)), (26, none, vint .i64 ((l.Next.length : Nat) : Int)), (27, none, vint .i64 ((i : Nat) : Int)), (34, none, .p ((eL eI 1 0) (l.Next.getD i []))), (35, none, vint .i64 (((l.Next.getD i []).length : Nat) : Int)), (36, none, vint .i64 0)]) (H' := [.box (.p (eLang l))]) [] [] [1, 25, 26, 27, 34, 35, 36] (by kernel_rfl) ?_ ?_
            · exact trivial
            refine tr_then ?_
            refine tr_block ?_
            refine tr_loop (α := Nat) (fun z : Nat => (fun (k : Nat) => [(1, none, .ref 0 []), (25, none, .p ((eL (eL eI 1 0) 1 []) l.Next)), (26, none, vint .i64 ((l.Next.length : Nat) : Int)), (27, none, vint .i64 ((i : Nat) : Int)), (34, none, .p ((eL eI 1 0) (l.Next.getD i []))), (35, none, vint .i64 (((l.Next.getD i []).length : Nat) : Int)), (36, none, vint .i64 ((k : Nat) : Int))]) z) (fun z : Nat => (fun (k : Nat) => [.box (.p (eLang l))]) z) (fun z : Nat => (fun (k : Nat) => (k ≤ 37) ∧ (∀ m, m < k → -1 ≤ (l.Next.getD i []).getD m 0 ∧ (l.Next.getD i []).getD m 0 < l.Accept.length)) z) (fun z : Nat => (fun (k : Nat) => 37 - k) z) 0 ?_ ?_ ?_
            · show (0 ≤ 37) ∧ (∀ m, m < 0 → -1 ≤ (l.Next.getD i []).getD m 0 ∧ (l.Next.getD i []).getD m 0 < l.Accept.length)
              refine ⟨?_, ?_⟩
              · omega
              · omega
            · intro A_ W_ hS
              replace hS := sl_set (d := vint .i64 0) 36 (vint .i64 ((0 : Nat) : Int)) (by kernel_rfl) (eqD_int (by omega)) hS
              exact sl_weak (vc := []) [0] [1, 25, 26, 27, 34, 35, 36] (by kernel_rfl) trivial hS
            · intro z hz
              revert z; intro k hz
              have hz : (k ≤ 37) ∧ (∀ m, m < k → -1 ≤ (l.Next.getD i []).getD m 0 ∧ (l.Next.getD i []).getD m 0 < l.Accept.length) := hz
              obtain ⟨hi1_0, hi1_1⟩ := hz
              refine tr_seq ?_
              refine tr_r (vc := []) (E' := [(1, none, .ref 0 []), (25, none, .p ((eL (eL eI 1 0) 1 []) l.Next)), (26, none, vint .i64 ((l.Next.length : Nat) : Int)), (27, none, vint .i64 ((i : Nat) : Int)), (34, none, .p ((eL eI 1 0) (l.Next.getD i []))), (35, none, vint .i64 (((l.Next.getD i []).length : Nat) : Int)), (36, none, vint .i64 ((k : Nat) : Int)), (37, none, vbool (decide (((k : Nat) : Int) < (((l.Next.getD i []).length : Nat) : Int))))]) (H' := [.box (.p (eLang l))]) [] [] [1, 25, 26, 27, 34, 35, 36, 37] (by kernel_rfl) ?_ ?_
              · exact trivial
              refine tr_then (tr_seq ?_)
              refine tr_condP (decide (((k : Nat) : Int) < (((l.Next.getD i []).length : Nat) : Int))) (((k : Nat) : Int) < (((l.Next.getD i []).length : Nat) : Int)) (by simp) (by kernel_rfl) (fun hc5 => ?_) (fun hc5 => ?_)
              · skip
                refine tr_skip ?_
                refine tr_then (tr_seq ?_)
                refine tr_block ?_
                refine tr_seq ?_
                refine tr_r (vc := [(0 : Int) ≤ ((k : Nat) : Int), ((k : Nat) : Int) < ((l.Next.getD i []).length : Int)]) (E' := [(1, none, .ref 0 []), (6, none, vint .i64 ((l.Next.getD i []).getD k 0)), (25, none, .p ((eL (eL eI 1 0) 1 []) l.Next)), (26, none, vint .i64 ((l.Next.length : Nat) : Int)), (27, none, vint .i64 ((i : Nat) : Int)), (34, none, .p ((eL eI 1 0) (l.Next.getD i []))), (35, none, vint .i64 (((l.Next.getD i []).length : Nat) : Int)), (36, none, vint .i64 ((k : Nat) : Int))]) (H' := [.box (.p (eLang l))]) [] [] [1, 6, 25, 26, 27, 34, 35, 36] (by kernel_rfl) ?_ ?_
                · refine al ?_ (al ?_ (trivial))
                  · omega
                  · omega
                refine tr_then (tr_seq ?_)
                refine tr_r (vc := [(!(decide (((l.Next.getD i []).getD k 0) < (-1)))) = true → (!(decide (((l.Next.getD i []).getD k 0) < (-1)))) = true, (!(decide (((l.Next.getD i []).getD k 0) < (-1)))) = true → (!(decide (((l.Next.getD i []).getD k 0) < (-1)))) = true, (!(decide (((l.Next.getD i []).getD k 0) < (-1)))) = true → (!(decide (((l.Next.getD i []).getD k 0) < (-1)))) = true, (!(decide (((l.Next.getD i []).getD k 0) < (-1)))) = true → (!(decide (((l.Next.getD i []).getD k 0) < (-1)))) = true, (!(decide (((l.Next.getD i []).getD k 0) < (-1)))) = true → (!(decide (((l.Next.getD i []).getD k 0) < (-1)))) = true]) (E' := [(1, none, .ref 0 []), (25, none, .p ((eL (eL eI 1 0) 1 []) l.Next)), (26, none, vint .i64 ((l.Next.length : Nat) : Int)), (27, none, vint .i64 ((i : Nat) : Int)), (34, none, .p ((eL eI 1 0) (l.Next.getD i []))), (35, none, vint .i64 (((l.Next.getD i []).length : Nat) : Int)), (36, none, vint .i64 ((k : Nat) : Int)), (48, none, vbool ((decide (((l.Next.getD i []).getD k 0) < (-1))) || (decide (((l.Accept.length : Nat) : Int) ≤ ((l.Next.getD i []).getD k 0)))))]) (H' := [.box (.p (eLang l))]) [] [] [1, 25, 26, 27, 34, 35, 36, 48] (by kernel_rfl) ?_ ?_
                · refine al ?_ (al ?_ (al ?_ (al ?_ (al ?_ (trivial)))))
                  · exact id
                  · exact id
                  · exact id
                  · exact id
                  · exact id
                refine tr_then ?_
                refine tr_condP ((decide (((l.Next.getD i []).getD k 0) < (-1))) || (decide (((l.Accept.length : Nat) : Int) ≤ ((l.Next.getD i []).getD k 0)))) ((((l.Next.getD i []).getD k 0) < (-1)) ∨ (((l.Accept.length : Nat) : Int) ≤ ((l.Next.getD i []).getD k 0))) (by simp) (by kernel_rfl) (fun hc6 => ?_) (fun hc6 => ?_)
                · skip
                  refine tr_seq ?_
                  refine tr_r (vc := []) (E' := [(2, none, vint .i64 5)]) (H' := [.box (.p (eLang l))]) [] [] [2] (by kernel_rfl) ?_ ?_
                  · exact trivial
                  refine tr_then ?_
                  refine tr_pre (E' := [(2, none, vint .i64 5)]) (H' := []) (fun A_ W_ hS => sl_weak (vc := []) [] [2] (by kernel_rfl) trivial hS) ?_
                  refine tr_pre (E' := (2, none, vint .i64 (check l)) :: [(2, none, vint .i64 5)]) (H' := []) (fun A_ W_ hS => sl_set_imp (d := vint .i64 5) 2 (vint .i64 (check l)) (by kernel_rfl) ?_ hS) ?_
                  · refine imp_eq (congrArg (fun x => D.p (eI x)) (a₁ := 5) (a₂ := (check l)) ?_)
                    rw [check, if_neg (by omega), if_neg (by omega), if_neg (fun h => by have := (h i (by omega)).2 k (by omega); omega)]
                  refine tr_pre (E' := [(2, none, vint .i64 (check l))]) (H' := []) (fun A_ W_ hS => sl_proj (ts := [2]) (by kernel_rfl) hS) ?_
                  exact tr_return' (vc := []) (ds := [vint .i64 (check l)]) (by kernel_rfl) trivial (by kernel_rfl) (fun _ _ h => h)
                · skip
                  refine tr_skip ?_
                  refine in_n ?_
                  refine tr_then ?_
                  refine tr_r (vc := [(IntKind.wrap .i64 (((k : Nat) : Int) + 1)) = (((k + 1) : Nat) : Int)]) (E' := [(1, none, .ref 0 []), (25, none, .p ((eL (eL eI 1 0) 1 []) l.Next)), (26, none, vint .i64 ((l.Next.length : Nat) : Int)), (27, none, vint .i64 ((i : Nat) : Int)), (34, none, .p ((eL eI 1 0) (l.Next.getD i []))), (35, none, vint .i64 (((l.Next.getD i []).length : Nat) : Int)), (36, none, vint .i64 (((k + 1) : Nat) : Int))]) (H' := [.box (.p (eLang l))]) [(0, vint .i64 (((k + 1) : Nat) : Int))] [] [1, 25, 26, 27, 34, 35, 36] (by kernel_rfl) ?_ ?_
                  · refine al ?_ (trivial)
                    · exact wr64 (by omega) (by omega) (by omega)
                  refine lp_end (k + 1) ?_ ?_ ?_
                  · show ((k + 1) ≤ 37) ∧ (∀ m, m < (k + 1) → -1 ≤ (l.Next.getD i []).getD m 0 ∧ (l.Next.getD i []).getD m 0 < l.Accept.length)
                    refine ⟨?_, ?_⟩
                    · omega
                    · exact fun j hj => (by by_cases e : j = k; (subst e; omega); exact hi1_1 j (by omega))
                  · show 37 - (k + 1) < 37 - k
                    omega
                  · intro A_ W_ hS
                    exact sl_weak (vc := []) [0] [1, 25, 26, 27, 34, 35, 36] (by kernel_rfl) trivial hS
              · skip
                refine tr_exit ?_
                refine th_e ?_
                refine th_e ?_
                refine in_hit ?_
                refine in_n ?_
                refine tr_then ?_
                refine tr_r (vc := [(IntKind.wrap .i64 (((i : Nat) : Int) + 1)) = (((i + 1) : Nat) : Int)]) (E' := [(1, none, .ref 0 []), (25, none, .p ((eL (eL eI 1 0) 1 []) l.Next)), (26, none, vint .i64 ((l.Next.length : Nat) : Int)), (27, none, vint .i64 (((i + 1) : Nat) : Int))]) (H' := [.box (.p (eLang l))]) [(0, vint .i64 (((i + 1) : Nat) : Int))] [] [1, 25, 26, 27] (by kernel_rfl) ?_ ?_
                · refine al ?_ (trivial)
                  · exact wr64 (by omega) (by omega) (by omega)
                refine lp_end (i + 1) ?_ ?_ ?_
                · show ((i + 1) ≤ l.Next.length) ∧ (∀ j, j < (i + 1) → okRow l.Accept.length (l.Next.getD j []))
                  refine ⟨?_, ?_⟩
                  · omega
                  · exact fun j hj => (by by_cases e : j = i; (subst e; exact ⟨by omega, fun m hm => hi1_1 m (by omega)⟩); exact hi0_1 j (by omega))
                · show l.Next.length - (i + 1) < l.Next.length - i
                  omega
                · intro A_ W_ hS
                  exact sl_weak (vc := []) [0] [1, 25, 26, 27] (by kernel_rfl) trivial hS
        · skip
          refine tr_exit ?_
          refine th_e ?_
          refine th_e ?_
          refine in_hit ?_
          refine tr_then (tr_seq ?_)
          refine tr_r (vc := []) (E' := [(2, none, vint .i64 0)]) (H' := [.box (.p (eLang l))]) [] [] [2] (by kernel_rfl) ?_ ?_
          · exact trivial
          refine tr_then ?_
          refine tr_pre (E' := [(2, none, vint .i64 0)]) (H' := []) (fun A_ W_ hS => sl_weak (vc := []) [] [2] (by kernel_rfl) trivial hS) ?_
          refine tr_pre (E' := (2, none, vint .i64 (check l)) :: [(2, none, vint .i64 0)]) (H' := []) (fun A_ W_ hS => sl_set_imp (d := vint .i64 0) 2 (vint .i64 (check l)) (by kernel_rfl) ?_ hS) ?_
          · refine imp_eq (congrArg (fun x => D.p (eI x)) (a₁ := 0) (a₂ := (check l)) ?_)
            rw [check, if_neg (by omega), if_neg (by omega), if_pos (show OkNext _ _ from fun j hj => hi0_1 j (by omega))]
          refine tr_pre (E' := [(2, none, vint .i64 (check l))]) (H' := []) (fun A_ W_ hS => sl_proj (ts := [2]) (by kernel_rfl) hS) ?_
          exact tr_return' (vc := []) (ds := [vint .i64 (check l)]) (by kernel_rfl) trivial (by kernel_rfl) (fun _ _ h => h)
end Go.Proofs.Ytjnjmnfacaakfaa
namespace Go.Proofs.Ytjnjmnfacaakfaa
open Go.Eng
theorem pure_of_calls {P : Program} {f : FuncId} {args : List PV} {res : D} (vs : List Value) (v : Value) (ha : ∀ F (us : List Value), us.length = args.length → (∀ (i : Nat) p u, args[i]? = some p → us[i]? = some u → RelV F noG (.p p) u) → us = vs)
    (hv : ∀ F, RelV F noG res v) (h : ∀ w : World, Calls P f vs.toArray w fun e w' => e = .returned v ∧ w' = w) : Pure P f args res := by
  intro F w us hsub hlen hrel
  rw [ha F us hlen hrel]
  refine (h w).mono ?_
  rintro e w' ⟨rfl, rfl⟩
  exact ⟨v, F, rfl, hsub, fun _ _ => rfl, Grew.refl _, hv F⟩
set_option maxRecDepth 100000 in
theorem sliteIB (s : ByteArray) (c : Int) (w : World) :
    Calls Try.prog 56 #[.string s, .int .u8 c] w fun e w' => e = .returned (.int .i64 (Lib.indexByte s.data.toList c.toNat.toUInt8)) ∧ w' = w := by
  go_enter Try.func56, Try.ntmps56
  go_wp2
  rw [run_callFunc_extern Try.func59 (by kernel_rfl) (by kernel_rfl) (by kernel_rfl) (e := Extern.BytealgIndexByte.indexByte) (by kernel_rfl), Lib.run_indexByteString]
  simp only [Result.andThen]
  rw [Oper.upon_value]
  go_wp2
  go_ret
  exact ⟨rfl, rfl⟩
theorem slite_ok (s : List UInt8) (c : Int) : Pure Try.prog 56 [.s s, .v (.int .u8 c)] (vint .i64 (Lib.indexByte s c.toNat.toUInt8)) := by
  refine pure_of_calls [.string ⟨s.toArray⟩, .int .u8 c] (.int .i64 (Lib.indexByte s c.toNat.toUInt8)) ?_ (fun F => relV_int) (fun w => sliteIB ⟨s.toArray⟩ c w)
  intro F us hl hr
  match us, hl with
  | [a, b], _ => rw [asStr_val rfl (hr 0 _ a rfl rfl), asInt_val rfl (hr 1 _ b rfl rfl)]
theorem indexByte_ok (s : List UInt8) (c : Int) : Pure Try.prog 51 [.s s, .v (.int .u8 c)] (vint .i64 (Lib.indexByte s c.toNat.toUInt8)) := by
  refine pure_of (fn := Try.f51) Try.func51 rfl rfl fun F_ W0_ => ?_
  refine tr_seq ?_
  refine tr_r (vc := []) (E' := [(0, none, vstr s), (1, none, vint .u8 c)]) (H' := []) [] [] [0, 1] (by kernel_rfl) ?_ ?_
  · exact trivial
  refine tr_then (tr_seq ?_)
  refine tr_r (vc := [Pure Try.prog 56 [.s s, .v (.int .u8 c)] (vint .i64 (Lib.indexByte s c.toNat.toUInt8))]) (E' := [(4, none, vint .i64 (Lib.indexByte s c.toNat.toUInt8))]) (H' := []) [] [(2, vint .i64 (Lib.indexByte s c.toNat.toUInt8))] [4] (by kernel_rfl) ?_ ?_
  · refine al ?_ (trivial)
    · exact slite_ok _ _
  refine tr_then ?_
  exact tr_return' (vc := []) (ds := [vint .i64 (Lib.indexByte s c.toNat.toUInt8)]) (by kernel_rfl) trivial (by kernel_rfl) (fun _ _ h => h)
def sym (c : Int) : Int := if 97 ≤ c ∧ c ≤ 122 then c - 97 else if 48 ≤ c ∧ c ≤ 57 then c - 22 else if c = 45 then 36 else -1
def symbols : List UInt8 := [97, 98, 99, 100, 101, 102, 103, 104, 105, 106, 107, 108, 109, 110, 111, 112, 113, 114, 115, 116, 117, 118, 119, 120, 121, 122, 48, 49, 50, 51, 52, 53, 54, 55, 56, 57, 45]
theorem sym_tab : ∀ n : Fin 256, Lib.indexByte symbols n.val.toUInt8 = sym n.val := by decide +kernel
theorem sym_index (c : Int) (h0 : 0 ≤ c) (h1 : c < 256) : Lib.indexByte symbols c.toNat.toUInt8 = sym c := by
  have := sym_tab ⟨c.toNat, by omega⟩
  simp only at this
  rw [this]
  congr 1
  omega
theorem namesSymbol_ok (c : Int) (h0 : 0 ≤ c) (h1 : c < 256) : Pure Try.prog 42 [.v (.int .u8 c)] (vint .i64 (sym c)) := by
  refine pure_of (fn := Try.f42) Try.func42 rfl rfl fun F_ W0_ => ?_
  refine tr_seq ?_
  refine tr_r (vc := []) (E' := [(0, none, vint .u8 c)]) (H' := []) [] [] [0] (by kernel_rfl) ?_ ?_
  · exact trivial
  refine tr_then (tr_seq ?_)
  refine tr_r (vc := [Pure Try.prog 51 [.s ([97, 98, 99, 100, 101, 102, 103, 104, 105, 106, 107, 108, 109, 110, 111, 112, 113, 114, 115, 116, 117, 118, 119, 120, 121, 122, 48, 49, 50, 51, 52, 53, 54, 55, 56, 57, 45] : List UInt8), .v (.int .u8 c)] (vint .i64 (Lib.indexByte ([97, 98, 99, 100, 101, 102, 103, 104, 105, 106, 107, 108, 109, 110, 111, 112, 113, 114, 115, 116, 117, 118, 119, 120, 121, 122, 48, 49, 50, 51, 52, 53, 54, 55, 56, 57, 45] : List UInt8) c.toNat.toUInt8))]) (E' := [(2, none, vint .i64 (Lib.indexByte ([97, 98, 99, 100, 101, 102, 103, 104, 105, 106, 107, 108, 109, 110, 111, 112, 113, 114, 115, 116, 117, 118, 119, 120, 121, 122, 48, 49, 50, 51, 52, 53, 54, 55, 56, 57, 45] : List UInt8) c.toNat.toUInt8))]) (H' := []) [] [(1, vint .i64 (Lib.indexByte ([97, 98, 99, 100, 101, 102, 103, 104, 105, 106, 107, 108, 109, 110, 111, 112, 113, 114, 115, 116, 117, 118, 119, 120, 121, 122, 48, 49, 50, 51, 52, 53, 54, 55, 56, 57, 45] : List UInt8) c.toNat.toUInt8))] [2] (by kernel_rfl) ?_ ?_
  · refine al ?_ (trivial)
    · exact indexByte_ok _ _
  refine tr_then ?_
  refine tr_pre (E' := (2, none, vint .i64 (sym c)) :: [(2, none, vint .i64 (Lib.indexByte ([97, 98, 99, 100, 101, 102, 103, 104, 105, 106, 107, 108, 109, 110, 111, 112, 113, 114, 115, 116, 117, 118, 119, 120, 121, 122, 48, 49, 50, 51, 52, 53, 54, 55, 56, 57, 45] : List UInt8) c.toNat.toUInt8))]) (H' := []) (fun A_ W_ hS => sl_set_imp (d := vint .i64 (Lib.indexByte ([97, 98, 99, 100, 101, 102, 103, 104, 105, 106, 107, 108, 109, 110, 111, 112, 113, 114, 115, 116, 117, 118, 119, 120, 121, 122, 48, 49, 50, 51, 52, 53, 54, 55, 56, 57, 45] : List UInt8) c.toNat.toUInt8)) 2 (vint .i64 (sym c)) (by kernel_rfl) ?_ hS) ?_
  · refine imp_eq (congrArg (fun x => D.p (eI x)) (a₁ := (Lib.indexByte ([97, 98, 99, 100, 101, 102, 103, 104, 105, 106, 107, 108, 109, 110, 111, 112, 113, 114, 115, 116, 117, 118, 119, 120, 121, 122, 48, 49, 50, 51, 52, 53, 54, 55, 56, 57, 45] : List UInt8) c.toNat.toUInt8)) (a₂ := (sym c)) ?_)
    exact sym_index c h0 h1
  refine tr_pre (E' := [(2, none, vint .i64 (sym c))]) (H' := []) (fun A_ W_ hS => sl_proj (ts := [2]) (by kernel_rfl) hS) ?_
  exact tr_return' (vc := []) (ds := [vint .i64 (sym c)]) (by kernel_rfl) trivial (by kernel_rfl) (fun _ _ h => h)
def script (c : Int) : Int := if 97 ≤ c ∧ c ≤ 122 then 1 else if 48 ≤ c ∧ c ≤ 57 then 2 else if c = 45 then 3 else 0
theorem script_ok (c : Int) : Pure Try.prog 52 [.v (.int .u8 c)] (vint .i64 (script c)) := by
  refine pure_of (fn := Try.f52) Try.func52 rfl rfl fun F_ W0_ => ?_
  refine tr_seq ?_
  refine tr_r (vc := []) (E' := [(0, none, vint .u8 c)]) (H' := []) [] [] [0] (by kernel_rfl) ?_ ?_
  · exact trivial
  refine tr_then (tr_seq ?_)
  refine tr_seq ?_
  refine tr_r (vc := [(decide (97 ≤ c)) = true → (decide (97 ≤ c)) = true, (decide (97 ≤ c)) = true → (decide (97 ≤ c)) = true]) (E' := [(0, none, vint .u8 c), (8, none, vbool ((decide (97 ≤ c)) && (decide (c ≤ 122))))]) (H' := []) [] [] [0, 8] (by kernel_rfl) ?_ ?_
  · refine al ?_ (al ?_ (trivial))
    · exact id
    · exact id
  refine tr_then ?_
  refine tr_condP ((decide (97 ≤ c)) && (decide (c ≤ 122))) ((97 ≤ c) ∧ (c ≤ 122)) (by simp) (by kernel_rfl) (fun hc1 => ?_) (fun hc1 => ?_)
  · skip
    refine tr_seq ?_
    refine tr_r (vc := []) (E' := [(2, none, vint .i64 1)]) (H' := []) [] [] [2] (by kernel_rfl) ?_ ?_
    · exact trivial
    refine tr_then ?_
    refine tr_pre (E' := (2, none, vint .i64 (script c)) :: [(2, none, vint .i64 1)]) (H' := []) (fun A_ W_ hS => sl_set_imp (d := vint .i64 1) 2 (vint .i64 (script c)) (by kernel_rfl) ?_ hS) ?_
    · refine imp_eq (congrArg (fun x => D.p (eI x)) (a₁ := 1) (a₂ := (script c)) ?_)
      unfold script; (repeat (split)) <;> omega
    refine tr_pre (E' := [(2, none, vint .i64 (script c))]) (H' := []) (fun A_ W_ hS => sl_proj (ts := [2]) (by kernel_rfl) hS) ?_
    exact tr_return' (vc := []) (ds := [vint .i64 (script c)]) (by kernel_rfl) trivial (by kernel_rfl) (fun _ _ h => h)
  · skip
    refine tr_skip ?_
    refine tr_then (tr_seq ?_)
    refine tr_seq ?_
    refine tr_r (vc := [(decide (48 ≤ c)) = true → (decide (48 ≤ c)) = true, (decide (48 ≤ c)) = true → (decide (48 ≤ c)) = true]) (E' := [(0, none, vint .u8 c), (14, none, vbool ((decide (48 ≤ c)) && (decide (c ≤ 57))))]) (H' := []) [] [] [0, 14] (by kernel_rfl) ?_ ?_
    · refine al ?_ (al ?_ (trivial))
      · exact id
      · exact id
    refine tr_then ?_
    refine tr_condP ((decide (48 ≤ c)) && (decide (c ≤ 57))) ((48 ≤ c) ∧ (c ≤ 57)) (by simp) (by kernel_rfl) (fun hc2 => ?_) (fun hc2 => ?_)
    · skip
      refine tr_seq ?_
      refine tr_r (vc := []) (E' := [(2, none, vint .i64 2)]) (H' := []) [] [] [2] (by kernel_rfl) ?_ ?_
      · exact trivial
      refine tr_then ?_
      refine tr_pre (E' := (2, none, vint .i64 (script c)) :: [(2, none, vint .i64 2)]) (H' := []) (fun A_ W_ hS => sl_set_imp (d := vint .i64 2) 2 (vint .i64 (script c)) (by kernel_rfl) ?_ hS) ?_
      · refine imp_eq (congrArg (fun x => D.p (eI x)) (a₁ := 2) (a₂ := (script c)) ?_)
        unfold script; (repeat (split)) <;> omega
      refine tr_pre (E' := [(2, none, vint .i64 (script c))]) (H' := []) (fun A_ W_ hS => sl_proj (ts := [2]) (by kernel_rfl) hS) ?_
      exact tr_return' (vc := []) (ds := [vint .i64 (script c)]) (by kernel_rfl) trivial (by kernel_rfl) (fun _ _ h => h)
    · skip
      refine tr_skip ?_
      refine tr_then (tr_seq ?_)
      refine tr_seq ?_
      refine tr_r (vc := []) (E' := [(16, none, vbool (c == 45))]) (H' := []) [] [] [16] (by kernel_rfl) ?_ ?_
      · exact trivial
      refine tr_then ?_
      refine tr_condP (c == 45) (c = 45) (by simp) (by kernel_rfl) (fun hc3 => ?_) (fun hc3 => ?_)
      · skip
        refine tr_seq ?_
        refine tr_r (vc := []) (E' := [(2, none, vint .i64 3)]) (H' := []) [] [] [2] (by kernel_rfl) ?_ ?_
        · exact trivial
        refine tr_then ?_
        refine tr_pre (E' := (2, none, vint .i64 (script c)) :: [(2, none, vint .i64 3)]) (H' := []) (fun A_ W_ hS => sl_set_imp (d := vint .i64 3) 2 (vint .i64 (script c)) (by kernel_rfl) ?_ hS) ?_
        · refine imp_eq (congrArg (fun x => D.p (eI x)) (a₁ := 3) (a₂ := (script c)) ?_)
          unfold script; (repeat (split)) <;> omega
        refine tr_pre (E' := [(2, none, vint .i64 (script c))]) (H' := []) (fun A_ W_ hS => sl_proj (ts := [2]) (by kernel_rfl) hS) ?_
        exact tr_return' (vc := []) (ds := [vint .i64 (script c)]) (by kernel_rfl) trivial (by kernel_rfl) (fun _ _ h => h)
      · skip
        refine tr_skip ?_
        refine tr_then (tr_seq ?_)
        refine tr_r (vc := []) (E' := [(2, none, vint .i64 0)]) (H' := []) [] [] [2] (by kernel_rfl) ?_ ?_
        · exact trivial
        refine tr_then ?_
        refine tr_pre (E' := (2, none, vint .i64 (script c)) :: [(2, none, vint .i64 0)]) (H' := []) (fun A_ W_ hS => sl_set_imp (d := vint .i64 0) 2 (vint .i64 (script c)) (by kernel_rfl) ?_ hS) ?_
        · refine imp_eq (congrArg (fun x => D.p (eI x)) (a₁ := 0) (a₂ := (script c)) ?_)
          unfold script; (repeat (split)) <;> omega
        refine tr_pre (E' := [(2, none, vint .i64 (script c))]) (H' := []) (fun A_ W_ hS => sl_proj (ts := [2]) (by kernel_rfl) hS) ?_
        exact tr_return' (vc := []) (ds := [vint .i64 (script c)]) (by kernel_rfl) trivial (by kernel_rfl) (fun _ _ h => h)
theorem refSymbol_ok (c : Int) (h0 : 0 ≤ c) (h1 : c < 256) : Pure Try.prog 43 [.v (.int .u8 c)] (vint .i64 (sym c)) := by
  refine pure_of (fn := Try.f43) Try.func43 rfl rfl fun F_ W0_ => ?_
  refine tr_seq ?_
  refine tr_r (vc := []) (E' := [(0, none, vint .u8 c)]) (H' := []) [] [] [0] (by kernel_rfl) ?_ ?_
  · exact trivial
  refine tr_then (tr_seq ?_)
  refine tr_seq ?_
  refine tr_r (vc := [Pure Try.prog 52 [.v (.int .u8 c)] (vint .i64 (script c))]) (E' := [(0, none, vint .u8 c), (4, none, vint .i64 (script c))]) (H' := []) [] [(1, vint .i64 (script c))] [0, 4] (by kernel_rfl) ?_ ?_
  · refine al ?_ (trivial)
    · exact script_ok _
  refine tr_then ?_
  refine tr_block ?_
  refine tr_seq ?_
  refine tr_r (vc := []) (E' := [(0, none, vint .u8 c), (4, none, vint .i64 (script c)), (5, none, vbool ((script c) == 1))]) (H' := []) [] [] [0, 4, 5] (by kernel_rfl) ?_ ?_
  · exact trivial
  refine tr_then ?_
  refine tr_condP ((script c) == 1) ((script c) = 1) (by simp) (by kernel_rfl) (fun hc1 => ?_) (fun hc1 => ?_)
  · skip
    refine tr_seq ?_
    refine tr_r (vc := [(IntKind.wrap .u8 (c - 97)) = (c - 97), (IntKind.wrap .i64 (c - 97)) = (c - 97)]) (E' := [(2, none, vint .i64 (c - 97))]) (H' := []) [(1, vint .u8 (c - 97)), (2, vint .i64 (c - 97))] [] [2] (by kernel_rfl) ?_ ?_
    · refine al ?_ (al ?_ (trivial))
      · exact wr8 (by unfold script at *; split at * <;> omega) (by unfold script at *; split at * <;> omega) rfl
      · exact wr64 (by omega) (by omega) (by omega)
    refine tr_then ?_
    refine tr_pre (E' := (2, none, vint .i64 (sym c)) :: [(2, none, vint .i64 (c - 97))]) (H' := []) (fun A_ W_ hS => sl_set_imp (d := vint .i64 (c - 97)) 2 (vint .i64 (sym c)) (by kernel_rfl) ?_ hS) ?_
    · refine imp_eq (congrArg (fun x => D.p (eI x)) (a₁ := (c - 97)) (a₂ := (sym c)) ?_)
      unfold script at *; unfold sym; (repeat (split at *)) <;> omega
    refine tr_pre (E' := [(2, none, vint .i64 (sym c))]) (H' := []) (fun A_ W_ hS => sl_proj (ts := [2]) (by kernel_rfl) hS) ?_
    exact tr_return' (vc := []) (ds := [vint .i64 (sym c)]) (by kernel_rfl) trivial (by kernel_rfl) (fun _ _ h => h)
  · skip
    refine tr_seq ?_
    refine tr_r (vc := []) (E' := [(0, none, vint .u8 c), (4, none, vint .i64 (script c)), (10, none, vbool ((script c) == 2))]) (H' := []) [] [] [0, 4, 10] (by kernel_rfl) ?_ ?_
    · exact trivial
    refine tr_then ?_
    refine tr_condP ((script c) == 2) ((script c) = 2) (by simp) (by kernel_rfl) (fun hc2 => ?_) (fun hc2 => ?_)
    · skip
      refine tr_seq ?_
      refine tr_r (vc := [(IntKind.wrap .u8 (c - 48)) = (c - 48), (IntKind.wrap .i64 (c - 48)) = (c - 48), (IntKind.wrap .i64 ((26 : Int) + (c - 48))) = ((26 : Int) + (c - 48))]) (E' := [(2, none, vint .i64 ((26 : Int) + (c - 48)))]) (H' := []) [(1, vint .u8 (c - 48)), (2, vint .i64 (c - 48)), (3, vint .i64 ((26 : Int) + (c - 48)))] [] [2] (by kernel_rfl) ?_ ?_
      · refine al ?_ (al ?_ (al ?_ (trivial)))
        · exact wr8 (by unfold script at *; (repeat (split at *)) <;> omega) (by omega) rfl
        · exact wr64 (by omega) (by omega) (by omega)
        · exact wr64 (by omega) (by omega) (by omega)
      refine tr_then ?_
      refine tr_pre (E' := (2, none, vint .i64 (sym c)) :: [(2, none, vint .i64 ((26 : Int) + (c - 48)))]) (H' := []) (fun A_ W_ hS => sl_set_imp (d := vint .i64 ((26 : Int) + (c - 48))) 2 (vint .i64 (sym c)) (by kernel_rfl) ?_ hS) ?_
      · refine imp_eq (congrArg (fun x => D.p (eI x)) (a₁ := ((26 : Int) + (c - 48))) (a₂ := (sym c)) ?_)
        unfold script at *; unfold sym; (repeat (split at *)) <;> omega
      refine tr_pre (E' := [(2, none, vint .i64 (sym c))]) (H' := []) (fun A_ W_ hS => sl_proj (ts := [2]) (by kernel_rfl) hS) ?_
      exact tr_return' (vc := []) (ds := [vint .i64 (sym c)]) (by kernel_rfl) trivial (by kernel_rfl) (fun _ _ h => h)
    · skip
      refine tr_seq ?_
      refine tr_r (vc := []) (E' := [(16, none, vbool ((script c) == 3))]) (H' := []) [] [] [16] (by kernel_rfl) ?_ ?_
      · exact trivial
      refine tr_then ?_
      refine tr_condP ((script c) == 3) ((script c) = 3) (by simp) (by kernel_rfl) (fun hc3 => ?_) (fun hc3 => ?_)
      · skip
        refine tr_seq ?_
        refine tr_r (vc := []) (E' := [(2, none, vint .i64 36)]) (H' := []) [] [] [2] (by kernel_rfl) ?_ ?_
        · exact trivial
        refine tr_then ?_
        refine tr_pre (E' := (2, none, vint .i64 (sym c)) :: [(2, none, vint .i64 36)]) (H' := []) (fun A_ W_ hS => sl_set_imp (d := vint .i64 36) 2 (vint .i64 (sym c)) (by kernel_rfl) ?_ hS) ?_
        · refine imp_eq (congrArg (fun x => D.p (eI x)) (a₁ := 36) (a₂ := (sym c)) ?_)
          unfold script at *; unfold sym; (repeat (split at *)) <;> omega
        refine tr_pre (E' := [(2, none, vint .i64 (sym c))]) (H' := []) (fun A_ W_ hS => sl_proj (ts := [2]) (by kernel_rfl) hS) ?_
        exact tr_return' (vc := []) (ds := [vint .i64 (sym c)]) (by kernel_rfl) trivial (by kernel_rfl) (fun _ _ h => h)
      · skip
        refine tr_skip ?_
        refine in_n ?_
        refine tr_then (tr_seq ?_)
        refine tr_r (vc := []) (E' := [(2, none, vint .i64 (-1))]) (H' := []) [] [] [2] (by kernel_rfl) ?_ ?_
        · exact trivial
        refine tr_then ?_
        refine tr_pre (E' := (2, none, vint .i64 (sym c)) :: [(2, none, vint .i64 (-1))]) (H' := []) (fun A_ W_ hS => sl_set_imp (d := vint .i64 (-1)) 2 (vint .i64 (sym c)) (by kernel_rfl) ?_ hS) ?_
        · refine imp_eq (congrArg (fun x => D.p (eI x)) (a₁ := (-1)) (a₂ := (sym c)) ?_)
          unfold script at *; unfold sym; (repeat (split at *)) <;> omega
        refine tr_pre (E' := [(2, none, vint .i64 (sym c))]) (H' := []) (fun A_ W_ hS => sl_proj (ts := [2]) (by kernel_rfl) hS) ?_
        exact tr_return' (vc := []) (ds := [vint .i64 (sym c)]) (by kernel_rfl) trivial (by kernel_rfl) (fun _ _ h => h)
theorem mod_ok (n : Int) (m : Int) (h0 : 0 < m) (h1 : m < 4611686018427387904) : Pure Try.prog 19 [.v (.int .i64 n), .v (.int .i64 m)] (vint .i64 (n % m)) := by
  have e1 := Int.tmod_lt_of_pos n h0
  have e2 := tmod_gt n h0
  refine pure_of (fn := Try.f19) Try.func19 rfl rfl fun F_ W0_ => ?_
  refine tr_seq ?_
  refine tr_r (vc := []) (E' := [(0, none, vint .i64 n), (1, none, vint .i64 m)]) (H' := []) [] [] [0, 1] (by kernel_rfl) ?_ ?_
  · exact trivial
  refine tr_then (tr_seq ?_)
  refine tr_r (vc := [(m : Int) ≠ 0, (IntKind.wrap .i64 ((n.tmod m) + m)) = ((n.tmod m) + m), (m : Int) ≠ 0]) (E' := [(4, none, vint .i64 (((n.tmod m) + m).tmod m))]) (H' := []) [(4, vint .i64 ((n.tmod m) + m))] [] [4] (by kernel_rfl) ?_ ?_
  · refine al ?_ (al ?_ (al ?_ (trivial)))
    · omega
    · exact wr64 (by omega) (by omega) (by omega)
    · omega
  refine tr_then ?_
  refine tr_pre (E' := (4, none, vint .i64 (n % m)) :: [(4, none, vint .i64 (((n.tmod m) + m).tmod m))]) (H' := []) (fun A_ W_ hS => sl_set_imp (d := vint .i64 (((n.tmod m) + m).tmod m)) 4 (vint .i64 (n % m)) (by kernel_rfl) ?_ hS) ?_
  · refine imp_eq (congrArg (fun x => D.p (eI x)) (a₁ := (((n.tmod m) + m).tmod m)) (a₂ := (n % m)) ?_)
    exact mod_eq n h0
  refine tr_pre (E' := [(4, none, vint .i64 (n % m))]) (H' := []) (fun A_ W_ hS => sl_proj (ts := [4]) (by kernel_rfl) hS) ?_
  exact tr_return' (vc := []) (ds := [vint .i64 (n % m)]) (by kernel_rfl) trivial (by kernel_rfl) (fun _ _ h => h)
end Go.Proofs.Ytjnjmnfacaakfaa
namespace Go.Proofs.Ytjnjmnfacaakfaa
open Go.Eng
def go (l : Lang) (q : Nat) : List UInt8 → Option Nat
  | [] => some q
  | c :: s => if sym c.toNat < 0 ∨ (l.Next.getD q []).getD (sym c.toNat).toNat 0 < 0 then none else go l ((l.Next.getD q []).getD (sym c.toNat).toNat 0).toNat s
def has (l : Lang) (s : List UInt8) : Bool := if check l ≠ 0 then false else match go l 0 s with
  | none => false
  | some q => l.Accept.getD q false
theorem check_facts {l : Lang} (h : check l = 0) : 1 ≤ l.Accept.length ∧ l.Accept.length ≤ 16 ∧ l.Next.length = l.Accept.length ∧ OkNext l.Accept.length l.Next := by
  unfold check at h
  split at h
  · omega
  · split at h
    · omega
    · split at h
      · exact ⟨by omega, by omega, by omega, by assumption⟩
      · omega
theorem drop_get {α : Type} {s : List α} {i : Nat} {d : α} (h : i < s.length) : s.drop i = s.getD i d :: s.drop (i + 1) := by
  rw [List.drop_eq_getElem_cons h]
  simp [List.getD, List.getElem?_eq_getElem h]
theorem go_step {l : Lang} {q : Nat} {s : List UInt8} {i : Nat} (h : i < s.length) : go l q (s.drop i) = if sym (s.getD i 0).toNat < 0 ∨ (l.Next.getD q []).getD (sym (s.getD i 0).toNat).toNat 0 < 0 then none else go l ((l.Next.getD q []).getD (sym (s.getD i 0).toNat).toNat 0).toNat (s.drop (i + 1)) := by
  rw [drop_get (d := 0) h, go]
theorem has_none {l : Lang} {s : List UInt8} (h : check l = 0) (g : go l 0 s = none) : has l s = false := by
  unfold has
  rw [if_neg (by omega), g]
theorem has_some {l : Lang} {s : List UInt8} {q : Nat} (h : check l = 0) (g : go l 0 s = some q) : has l s = l.Accept.getD q false := by
  unfold has
  rw [if_neg (by omega), g]
theorem sym_le (c : Int) : sym c ≤ 36 := by
  unfold sym
  (repeat (split)) <;> omega
theorem strB_length (s : List UInt8) : (strB s).length = s.length := by simp [strB]
theorem strB_get (s : List UInt8) (i : Nat) : (strB s).getD i 0 = ((s.getD i 0).toNat : Int) := by
  simp [strB, List.getD, List.getElem?_map]
  cases s[i]? <;> simp
theorem has_ok (l : Lang) (s : List UInt8) (hlen : s.length < 4611686018427387904) : Pure Try.prog 16 [eLang l, .s s] (vbool (has l s)) := by
  refine pure_of (fn := Try.f16) Try.func16 rfl rfl fun F_ W0_ => ?_
  refine tr_seq ?_
  refine tr_r (vc := []) (E' := [(1, none, vstr s), (2, none, .ref 0 [])]) (H' := [.box (.p (eLang l))]) [] [] [1, 2] (by kernel_rfl) ?_ ?_
  · exact trivial
  refine tr_then (tr_seq ?_)
  refine tr_seq ?_
  refine tr_r (vc := [Pure Try.prog 20 [eLang l] (vint .i64 (check l))]) (E' := [(1, none, vstr s), (2, none, .ref 0 []), (11, none, vbool ((check l) != 0))]) (H' := [.box (.p (eLang l))]) [] [(1, vint .i64 (check l))] [1, 2, 11] (by kernel_rfl) ?_ ?_
  · refine al ?_ (trivial)
    · exact check_ok _
  refine tr_then ?_
  refine tr_condP ((check l) != 0) ((check l) ≠ 0) (by simp) (by kernel_rfl) (fun hc1 => ?_) (fun hc1 => ?_)
  · skip
    refine tr_seq ?_
    refine tr_r (vc := []) (E' := [(4, none, vbool false)]) (H' := [.box (.p (eLang l))]) [] [] [4] (by kernel_rfl) ?_ ?_
    · exact trivial
    refine tr_then ?_
    refine tr_pre (E' := [(4, none, vbool false)]) (H' := []) (fun A_ W_ hS => sl_weak (vc := []) [] [4] (by kernel_rfl) trivial hS) ?_
    refine tr_pre (E' := (4, none, vbool (has l s)) :: [(4, none, vbool false)]) (H' := []) (fun A_ W_ hS => sl_set_imp (d := vbool false) 4 (vbool (has l s)) (by kernel_rfl) ?_ hS) ?_
    · refine imp_eq (congrArg (fun x => D.p (eB x)) (a₁ := false) (a₂ := (has l s)) ?_)
      unfold has; rw [if_pos (by omega)]
    refine tr_pre (E' := [(4, none, vbool (has l s))]) (H' := []) (fun A_ W_ hS => sl_proj (ts := [4]) (by kernel_rfl) hS) ?_
    exact tr_return' (vc := []) (ds := [vbool (has l s)]) (by kernel_rfl) trivial (by kernel_rfl) (fun _ _ h => h)
  · skip
    refine tr_skip ?_
    refine tr_then (tr_seq ?_)
    refine tr_r (vc := []) (E' := [(1, none, vstr s), (2, none, .ref 0 []), (5, none, vint .i64 0)]) (H' := [.box (.p (eLang l))]) [] [] [1, 2, 5] (by kernel_rfl) ?_ ?_
    · exact trivial
    refine tr_then (tr_seq ?_)
    refine tr_seq ?_
    refine tr_r (vc := [bytesPV s = (eL (eK .u8) 1 0) (strB s)]) (E' := [(2, none, .ref 0 []), (5, none, vint .i64 0), (13, none, .p ((eL (eK .u8) 1 0) (strB s))), (14, none, vint .i64 (((strB s).length : Nat) : Int)), (15, none, vint .i64 0)]) (H' := [.box (.p (eLang l))]) [] [(1, .p ((eL (eK .u8) 1 0) (strB s)))] [2, 5, 13, 14, 15] (by kernel_rfl) ?_ ?_
    · refine al ?_ (trivial)
      · exact strB_eq _
    refine tr_then ?_
    refine tr_block ?_
    refine tr_loop (α := Nat × Nat) (fun z : Nat × Nat => (fun (i : Nat) (q : Nat) => [(2, none, .ref 0 []), (5, none, vint .i64 ((q : Nat) : Int)), (13, none, .p ((eL (eK .u8) 1 0) (strB s))), (14, none, vint .i64 (((strB s).length : Nat) : Int)), (15, none, vint .i64 ((i : Nat) : Int))]) z.1 z.2) (fun z : Nat × Nat => (fun (i : Nat) (q : Nat) => [.box (.p (eLang l))]) z.1 z.2) (fun z : Nat × Nat => (fun (i : Nat) (q : Nat) => (i ≤ s.length) ∧ (q < l.Accept.length) ∧ (go l q (s.drop i) = go l 0 s)) z.1 z.2) (fun z : Nat × Nat => (fun (i : Nat) (q : Nat) => s.length - i) z.1 z.2) (0, 0) ?_ ?_ ?_
    · show (0 ≤ s.length) ∧ (0 < l.Accept.length) ∧ (go l 0 (s.drop 0) = go l 0 s)
      refine ⟨?_, ?_, ?_⟩
      · omega
      · have := check_facts (show check l = 0 by omega); omega
      · rw [List.drop_zero]
    · intro A_ W_ hS
      replace hS := sl_set (d := vint .i64 0) 5 (vint .i64 ((0 : Nat) : Int)) (by kernel_rfl) (eqD_int (by omega)) hS
      replace hS := sl_set (d := vint .i64 0) 15 (vint .i64 ((0 : Nat) : Int)) (by kernel_rfl) (eqD_int (by omega)) hS
      exact sl_weak (vc := []) [0] [2, 5, 13, 14, 15] (by kernel_rfl) trivial hS
    · intro z hz
      obtain ⟨i, q⟩ := z
      have hz : (i ≤ s.length) ∧ (q < l.Accept.length) ∧ (go l q (s.drop i) = go l 0 s) := hz
      obtain ⟨hi0_0, hi0_1, hi0_2⟩ := hz
      have hok : check l = 0 := by omega
      obtain ⟨f1, f2, f3, f4⟩ := check_facts hok
      have hb := (s.getD i 0).toNat_lt
      have hs := sym_le ((s.getD i 0).toNat : Int)
      have hr := f4 q (by omega)
      have hr2 := hr.2 (sym ((s.getD i 0).toNat : Int)).toNat
      have hr1 := hr.1
      have hl := strB_length s
      refine tr_seq ?_
      refine tr_r (vc := []) (E' := [(2, none, .ref 0 []), (5, none, vint .i64 ((q : Nat) : Int)), (13, none, .p ((eL (eK .u8) 1 0) (strB s))), (14, none, vint .i64 (((strB s).length : Nat) : Int)), (15, none, vint .i64 ((i : Nat) : Int)), (16, none, vbool (decide (((i : Nat) : Int) < (((strB s).length : Nat) : Int))))]) (H' := [.box (.p (eLang l))]) [] [] [2, 5, 13, 14, 15, 16] (by kernel_rfl) ?_ ?_
      · exact trivial
      refine tr_then (tr_seq ?_)
      refine tr_condP (decide (((i : Nat) : Int) < (((strB s).length : Nat) : Int))) (((i : Nat) : Int) < (((strB s).length : Nat) : Int)) (by simp) (by kernel_rfl) (fun hc2 => ?_) (fun hc2 => ?_)
      · skip
        refine tr_skip ?_
        refine tr_then (tr_seq ?_)
        refine tr_block ?_
        refine tr_seq ?_
        refine tr_r (vc := [(0 : Int) ≤ ((i : Nat) : Int), ((i : Nat) : Int) < ((strB s).length : Int), ((strB s).getD i 0) = ((s.getD i 0).toNat : Int)]) (E' := [(2, none, .ref 0 []), (5, none, vint .i64 ((q : Nat) : Int)), (7, none, vint .u8 ((s.getD i 0).toNat : Int)), (13, none, .p ((eL (eK .u8) 1 0) (strB s))), (14, none, vint .i64 (((strB s).length : Nat) : Int)), (15, none, vint .i64 ((i : Nat) : Int))]) (H' := [.box (.p (eLang l))]) [(1, vint .u8 ((s.getD i 0).toNat : Int))] [] [2, 5, 7, 13, 14, 15] (by kernel_rfl) ?_ ?_
        · refine al ?_ (al ?_ (al ?_ (trivial)))
          · omega
          · omega
          · exact strB_get s i
        refine tr_then (tr_seq ?_)
        refine tr_r (vc := [Pure Try.prog 42 [.v (.int .u8 ((s.getD i 0).toNat : Int))] (vint .i64 (sym ((s.getD i 0).toNat : Int)))]) (E' := [(2, none, .ref 0 []), (5, none, vint .i64 ((q : Nat) : Int)), (8, none, vint .i64 (sym ((s.getD i 0).toNat : Int))), (13, none, .p ((eL (eK .u8) 1 0) (strB s))), (14, none, vint .i64 (((strB s).length : Nat) : Int)), (15, none, vint .i64 ((i : Nat) : Int))]) (H' := [.box (.p (eLang l))]) [] [(1, vint .i64 (sym ((s.getD i 0).toNat : Int)))] [2, 5, 8, 13, 14, 15] (by kernel_rfl) ?_ ?_
        · refine al ?_ (trivial)
          · exact namesSymbol_ok _ (by omega) (by omega)
        refine tr_then (tr_seq ?_)
        refine tr_seq ?_
        refine tr_r (vc := [(!(decide ((sym ((s.getD i 0).toNat : Int)) < 0))) = true → (!(decide ((sym ((s.getD i 0).toNat : Int)) < 0))) = true, (!(decide ((sym ((s.getD i 0).toNat : Int)) < 0))) = true → (!(decide ((sym ((s.getD i 0).toNat : Int)) < 0))) = true, (!(decide ((sym ((s.getD i 0).toNat : Int)) < 0))) = true → (!(decide ((sym ((s.getD i 0).toNat : Int)) < 0))) = true, (!(decide ((sym ((s.getD i 0).toNat : Int)) < 0))) = true → ((0 : Int) ≤ ((q : Nat) : Int)), (!(decide ((sym ((s.getD i 0).toNat : Int)) < 0))) = true → (((q : Nat) : Int) < (l.Next.length : Int)), (!(decide ((sym ((s.getD i 0).toNat : Int)) < 0))) = true → (!(decide ((sym ((s.getD i 0).toNat : Int)) < 0))) = true, (!(decide ((sym ((s.getD i 0).toNat : Int)) < 0))) = true → (!(decide ((sym ((s.getD i 0).toNat : Int)) < 0))) = true, (!(decide ((sym ((s.getD i 0).toNat : Int)) < 0))) = true → (!(decide ((sym ((s.getD i 0).toNat : Int)) < 0))) = true, (!(decide ((sym ((s.getD i 0).toNat : Int)) < 0))) = true → ((0 : Int) ≤ (sym ((s.getD i 0).toNat : Int))), (!(decide ((sym ((s.getD i 0).toNat : Int)) < 0))) = true → ((sym ((s.getD i 0).toNat : Int)) < ((l.Next.getD q []).length : Int)), (!(decide ((sym ((s.getD i 0).toNat : Int)) < 0))) = true → (!(decide ((sym ((s.getD i 0).toNat : Int)) < 0))) = true, (!(decide ((sym ((s.getD i 0).toNat : Int)) < 0))) = true → (!(decide ((sym ((s.getD i 0).toNat : Int)) < 0))) = true, (!(decide ((sym ((s.getD i 0).toNat : Int)) < 0))) = true → (!(decide ((sym ((s.getD i 0).toNat : Int)) < 0))) = true]) (E' := [(2, none, .ref 0 []), (5, none, vint .i64 ((q : Nat) : Int)), (8, none, vint .i64 (sym ((s.getD i 0).toNat : Int))), (13, none, .p ((eL (eK .u8) 1 0) (strB s))), (14, none, vint .i64 (((strB s).length : Nat) : Int)), (15, none, vint .i64 ((i : Nat) : Int)), (33, none, vbool ((decide ((sym ((s.getD i 0).toNat : Int)) < 0)) || (decide (((l.Next.getD q []).getD ((sym ((s.getD i 0).toNat : Int)).toNat) 0) < 0))))]) (H' := [.box (.p (eLang l))]) [] [] [2, 5, 8, 13, 14, 15, 33] (by kernel_rfl) ?_ ?_
        · refine al ?_ (al ?_ (al ?_ (al ?_ (al ?_ (al ?_ (al ?_ (al ?_ (al ?_ (al ?_ (al ?_ (al ?_ (al ?_ (trivial)))))))))))))
          · exact id
          · exact id
          · exact id
          · omega
          · omega
          · exact id
          · exact id
          · exact id
          · (simp; done)
          · omega
          · exact id
          · exact id
          · exact id
        refine tr_then ?_
        refine tr_condP ((decide ((sym ((s.getD i 0).toNat : Int)) < 0)) || (decide (((l.Next.getD q []).getD ((sym ((s.getD i 0).toNat : Int)).toNat) 0) < 0))) (((sym ((s.getD i 0).toNat : Int)) < 0) ∨ (((l.Next.getD q []).getD ((sym ((s.getD i 0).toNat : Int)).toNat) 0) < 0)) (by simp) (by kernel_rfl) (fun hc3 => ?_) (fun hc3 => ?_)
        · skip
          refine tr_seq ?_
          refine tr_r (vc := []) (E' := [(4, none, vbool false)]) (H' := [.box (.p (eLang l))]) [] [] [4] (by kernel_rfl) ?_ ?_
          · exact trivial
          refine tr_then ?_
          refine tr_pre (E' := [(4, none, vbool false)]) (H' := []) (fun A_ W_ hS => sl_weak (vc := []) [] [4] (by kernel_rfl) trivial hS) ?_
          refine tr_pre (E' := (4, none, vbool (has l s)) :: [(4, none, vbool false)]) (H' := []) (fun A_ W_ hS => sl_set_imp (d := vbool false) 4 (vbool (has l s)) (by kernel_rfl) ?_ hS) ?_
          · refine imp_eq (congrArg (fun x => D.p (eB x)) (a₁ := false) (a₂ := (has l s)) ?_)
            exact (has_none hok (by rw [← hi0_2, go_step (by omega), if_pos (by omega)])).symm
          refine tr_pre (E' := [(4, none, vbool (has l s))]) (H' := []) (fun A_ W_ hS => sl_proj (ts := [4]) (by kernel_rfl) hS) ?_
          exact tr_return' (vc := []) (ds := [vbool (has l s)]) (by kernel_rfl) trivial (by kernel_rfl) (fun _ _ h => h)
        · skip
          refine tr_skip ?_
          refine tr_then ?_
          refine tr_r (vc := [(0 : Int) ≤ ((q : Nat) : Int), ((q : Nat) : Int) < (l.Next.length : Int), (0 : Int) ≤ (sym ((s.getD i 0).toNat : Int)), (sym ((s.getD i 0).toNat : Int)) < ((l.Next.getD q []).length : Int)]) (E' := [(2, none, .ref 0 []), (5, none, vint .i64 ((l.Next.getD q []).getD ((sym ((s.getD i 0).toNat : Int)).toNat) 0)), (13, none, .p ((eL (eK .u8) 1 0) (strB s))), (14, none, vint .i64 (((strB s).length : Nat) : Int)), (15, none, vint .i64 ((i : Nat) : Int))]) (H' := [.box (.p (eLang l))]) [] [] [2, 5, 13, 14, 15] (by kernel_rfl) ?_ ?_
          · refine al ?_ (al ?_ (al ?_ (al ?_ (trivial))))
            · omega
            · omega
            · omega
            · omega
          refine in_n ?_
          refine tr_then ?_
          refine tr_r (vc := [(IntKind.wrap .i64 (((i : Nat) : Int) + 1)) = (((i + 1) : Nat) : Int)]) (E' := [(2, none, .ref 0 []), (5, none, vint .i64 ((l.Next.getD q []).getD ((sym ((s.getD i 0).toNat : Int)).toNat) 0)), (13, none, .p ((eL (eK .u8) 1 0) (strB s))), (14, none, vint .i64 (((strB s).length : Nat) : Int)), (15, none, vint .i64 (((i + 1) : Nat) : Int))]) (H' := [.box (.p (eLang l))]) [(0, vint .i64 (((i + 1) : Nat) : Int))] [] [2, 5, 13, 14, 15] (by kernel_rfl) ?_ ?_
          · refine al ?_ (trivial)
            · exact wr64 (by omega) (by omega) (by omega)
          refine lp_end ((i + 1), ((l.Next.getD q []).getD (sym ((s.getD i 0).toNat : Int)).toNat 0).toNat) ?_ ?_ ?_
          · show ((i + 1) ≤ s.length) ∧ ((((l.Next.getD q []).getD (sym ((s.getD i 0).toNat : Int)).toNat 0).toNat) < l.Accept.length) ∧ (go l (((l.Next.getD q []).getD (sym ((s.getD i 0).toNat : Int)).toNat 0).toNat) (s.drop (i + 1)) = go l 0 s)
            refine ⟨?_, ?_, ?_⟩
            · omega
            · have := hr2 (by omega); omega
            · rw [← hi0_2, go_step (s := s) (i := i) (by omega), if_neg (by omega)]
          · show s.length - (i + 1) < s.length - i
            omega
          · intro A_ W_ hS
            replace hS := sl_set (d := vint .i64 ((l.Next.getD q []).getD ((sym ((s.getD i 0).toNat : Int)).toNat) 0)) 5 (vint .i64 (((((l.Next.getD q []).getD (sym ((s.getD i 0).toNat : Int)).toNat 0).toNat) : Nat) : Int)) (by kernel_rfl) (eqD_int (by have := hr2 (by omega); omega)) hS
            exact sl_weak (vc := []) [0] [2, 5, 13, 14, 15] (by kernel_rfl) trivial hS
      · skip
        refine tr_exit ?_
        refine th_e ?_
        refine th_e ?_
        refine in_hit ?_
        refine tr_then (tr_seq ?_)
        refine tr_r (vc := [(0 : Int) ≤ ((q : Nat) : Int), ((q : Nat) : Int) < (l.Accept.length : Int)]) (E' := [(4, none, vbool (l.Accept.getD q false))]) (H' := [.box (.p (eLang l))]) [] [] [4] (by kernel_rfl) ?_ ?_
        · refine al ?_ (al ?_ (trivial))
          · omega
          · omega
        refine tr_then ?_
        refine tr_pre (E' := [(4, none, vbool (l.Accept.getD q false))]) (H' := []) (fun A_ W_ hS => sl_weak (vc := []) [] [4] (by kernel_rfl) trivial hS) ?_
        refine tr_pre (E' := (4, none, vbool (has l s)) :: [(4, none, vbool (l.Accept.getD q false))]) (H' := []) (fun A_ W_ hS => sl_set_imp (d := vbool (l.Accept.getD q false)) 4 (vbool (has l s)) (by kernel_rfl) ?_ hS) ?_
        · refine imp_eq (congrArg (fun x => D.p (eB x)) (a₁ := (l.Accept.getD q false)) (a₂ := (has l s)) ?_)
          exact (has_some hok (by rw [← hi0_2, List.drop_of_length_le (by omega), go])).symm
        refine tr_pre (E' := [(4, none, vbool (has l s))]) (H' := []) (fun A_ W_ hS => sl_proj (ts := [4]) (by kernel_rfl) hS) ?_
        exact tr_return' (vc := []) (ds := [vbool (has l s)]) (by kernel_rfl) trivial (by kernel_rfl) (fun _ _ h => h)
end Go.Proofs.Ytjnjmnfacaakfaa
namespace Go.Proofs.Ytjnjmnfacaakfaa
open Go.Eng
theorem ext_getD {α : Type} {a b : List α} (d : α) (h : a.length = b.length) (hh : ∀ i, i < a.length → a.getD i d = b.getD i d) : a = b := by
  apply List.ext_getElem h
  intro i h1 h2
  have := hh i h1
  simpa [List.getD, List.getElem?_eq_getElem h1, List.getElem?_eq_getElem h2] using this
theorem lang_ext {a b : Lang} (h1 : a.Accept = b.Accept) (h2 : a.Next = b.Next) : a = b := by cases a; cases b; simp_all
def wordTab : List UInt8 := [97, 98, 99, 97, 98, 99, 48, 49, 102, 45, 97, 48]
def wordC (n : Int) : UInt8 := wordTab.getD (n % 12).toNat 0
def word (l : List Int) : List UInt8 := (l.take 8).map wordC
theorem sameTexts_ok (a : List (List UInt8)) (b : List (List UInt8)) (hb0 : a.length < 4611686018427387904) : Pure Try.prog 23 [(eL eS 1 []) a, (eL eS 1 []) b] (vbool (decide (a = b))) := by
  refine pure_of (fn := Try.f23) Try.func23 rfl rfl fun F_ W0_ => ?_
  refine tr_seq ?_
  refine tr_r (vc := []) (E' := [(0, none, .p ((eL eS 1 []) a)), (1, none, .p ((eL eS 1 []) b))]) (H' := []) [] [] [0, 1] (by kernel_rfl) ?_ ?_
  · exact trivial
  refine tr_then (tr_seq ?_)
  refine tr_seq ?_
  refine tr_r (vc := []) (E' := [(0, none, .p ((eL eS 1 []) a)), (1, none, .p ((eL eS 1 []) b)), (10, none, vbool (((a.length : Nat) : Int) != ((b.length : Nat) : Int)))]) (H' := []) [] [] [0, 1, 10] (by kernel_rfl) ?_ ?_
  · exact trivial
  refine tr_then ?_
  refine tr_condP (((a.length : Nat) : Int) != ((b.length : Nat) : Int)) (((a.length : Nat) : Int) ≠ ((b.length : Nat) : Int)) (by simp) (by kernel_rfl) (fun hc1 => ?_) (fun hc1 => ?_)
  · skip
    refine tr_seq ?_
    refine tr_r (vc := []) (E' := [(4, none, vbool false)]) (H' := []) [] [] [4] (by kernel_rfl) ?_ ?_
    · exact trivial
    refine tr_then ?_
    refine tr_pre (E' := (4, none, vbool (decide (a = b))) :: [(4, none, vbool false)]) (H' := []) (fun A_ W_ hS => sl_set_imp (d := vbool false) 4 (vbool (decide (a = b))) (by kernel_rfl) ?_ hS) ?_
    · refine imp_eq (congrArg (fun x => D.p (eB x)) (a₁ := false) (a₂ := (decide (a = b))) ?_)
      exact (decide_eq_false (fun h => by rw [h] at hc1; omega)).symm
    refine tr_pre (E' := [(4, none, vbool (decide (a = b)))]) (H' := []) (fun A_ W_ hS => sl_proj (ts := [4]) (by kernel_rfl) hS) ?_
    exact tr_return' (vc := []) (ds := [vbool (decide (a = b))]) (by kernel_rfl) trivial (by kernel_rfl) (fun _ _ h => h)
  · skip
    refine tr_skip ?_
    refine tr_then (tr_seq ?_)
    refine tr_seq ?_
    refine tr_r (vc := []) (E' := [(0, none, .p ((eL eS 1 []) a)), (1, none, .p ((eL eS 1 []) b)), (5, none, vint .i64 0)]) (H' := []) [] [] [0, 1, 5] (by kernel_rfl) ?_ ?_
    · exact trivial
    refine tr_then ?_
    refine tr_block ?_
    refine tr_loop (α := Nat) (fun z : Nat => (fun (i : Nat) => [(0, none, .p ((eL eS 1 []) a)), (1, none, .p ((eL eS 1 []) b)), (5, none, vint .i64 ((i : Nat) : Int))]) z) (fun z : Nat => (fun (i : Nat) => []) z) (fun z : Nat => (fun (i : Nat) => (i ≤ a.length) ∧ (∀ j, j < i → a.getD j [] = b.getD j [])) z) (fun z : Nat => (fun (i : Nat) => a.length - i) z) 0 ?_ ?_ ?_
    · show (0 ≤ a.length) ∧ (∀ j, j < 0 → a.getD j [] = b.getD j [])
      refine ⟨?_, ?_⟩
      · omega
      · omega
    · intro A_ W_ hS
      replace hS := sl_set (d := vint .i64 0) 5 (vint .i64 ((0 : Nat) : Int)) (by kernel_rfl) (eqD_int (by omega)) hS
      exact sl_weak (vc := []) [] [0, 1, 5] (by kernel_rfl) trivial hS
    · intro z hz
      revert z; intro i hz
      have hz : (i ≤ a.length) ∧ (∀ j, j < i → a.getD j [] = b.getD j []) := hz
      obtain ⟨hi0_0, hi0_1⟩ := hz
      refine tr_seq ?_
      refine tr_seq ?_
      refine tr_r (vc := []) (E' := [(0, none, .p ((eL eS 1 []) a)), (1, none, .p ((eL eS 1 []) b)), (5, none, vint .i64 ((i : Nat) : Int)), (14, none, vbool (decide (((i : Nat) : Int) < ((a.length : Nat) : Int))))]) (H' := []) [] [] [0, 1, 5, 14] (by kernel_rfl) ?_ ?_
      · exact trivial
      refine tr_then ?_
      refine tr_condP (decide (((i : Nat) : Int) < ((a.length : Nat) : Int))) (((i : Nat) : Int) < ((a.length : Nat) : Int)) (by simp) (by kernel_rfl) (fun hc2 => ?_) (fun hc2 => ?_)
      · skip
        refine tr_skip ?_
        refine tr_then (tr_seq ?_)
        refine tr_block ?_
        refine tr_seq ?_
        refine tr_d (vc := [(0 : Int) ≤ ((i : Nat) : Int), ((i : Nat) : Int) < (a.length : Int), (0 : Int) ≤ ((i : Nat) : Int), ((i : Nat) : Int) < (b.length : Int)]) (E' := [(0, none, .p ((eL eS 1 []) a)), (1, none, .p ((eL eS 1 []) b)), (5, none, vint .i64 ((i : Nat) : Int)), (25, none, vbool (!((a.getD i []) == (b.getD i []))))]) [] [] [0, 1, 5, 25] (by kernel_rfl) (by kernel_rfl) (by kernel_rfl) ?_ ?_
        · refine al ?_ (al ?_ (al ?_ (al ?_ (trivial))))
          · omega
          · omega
          · omega
          · omega
        refine tr_then ?_
        refine tr_condP (!((a.getD i []) == (b.getD i []))) (¬ (a.getD i []) = (b.getD i [])) (by simp) (by kernel_rfl) (fun hc3 => ?_) (fun hc3 => ?_)
        · skip
          refine tr_seq ?_
          refine tr_r (vc := []) (E' := [(4, none, vbool false)]) (H' := []) [] [] [4] (by kernel_rfl) ?_ ?_
          · exact trivial
          refine tr_then ?_
          refine tr_pre (E' := (4, none, vbool (decide (a = b))) :: [(4, none, vbool false)]) (H' := []) (fun A_ W_ hS => sl_set_imp (d := vbool false) 4 (vbool (decide (a = b))) (by kernel_rfl) ?_ hS) ?_
          · refine imp_eq (congrArg (fun x => D.p (eB x)) (a₁ := false) (a₂ := (decide (a = b))) ?_)
            exact (decide_eq_false (fun h => hc3 (by rw [h]))).symm
          refine tr_pre (E' := [(4, none, vbool (decide (a = b)))]) (H' := []) (fun A_ W_ hS => sl_proj (ts := [4]) (by kernel_rfl) hS) ?_
          exact tr_return' (vc := []) (ds := [vbool (decide (a = b))]) (by kernel_rfl) trivial (by kernel_rfl) (fun _ _ h => h)
        · skip
          refine tr_skip ?_
          refine in_n ?_
          refine tr_then ?_
          refine tr_r (vc := [(IntKind.wrap .i64 (((i : Nat) : Int) + 1)) = (((i + 1) : Nat) : Int)]) (E' := [(0, none, .p ((eL eS 1 []) a)), (1, none, .p ((eL eS 1 []) b)), (5, none, vint .i64 (((i + 1) : Nat) : Int))]) (H' := []) [(1, vint .i64 (((i + 1) : Nat) : Int))] [] [0, 1, 5] (by kernel_rfl) ?_ ?_
          · refine al ?_ (trivial)
            · exact wr64 (by omega) (by omega) (by omega)
          refine lp_end (i + 1) ?_ ?_ ?_
          · show ((i + 1) ≤ a.length) ∧ (∀ j, j < (i + 1) → a.getD j [] = b.getD j [])
            refine ⟨?_, ?_⟩
            · omega
            · exact fun j hj => (by by_cases e : j = i; (subst e; simpa using hc3); exact hi0_1 j (by omega))
          · show a.length - (i + 1) < a.length - i
            omega
          · intro A_ W_ hS
            exact sl_weak (vc := []) [] [0, 1, 5] (by kernel_rfl) trivial hS
      · skip
        refine tr_exit ?_
        refine th_e ?_
        refine th_e ?_
        refine in_hit ?_
        refine tr_then (tr_seq ?_)
        refine tr_r (vc := []) (E' := [(4, none, vbool true)]) (H' := []) [] [] [4] (by kernel_rfl) ?_ ?_
        · exact trivial
        refine tr_then ?_
        refine tr_pre (E' := (4, none, vbool (decide (a = b))) :: [(4, none, vbool true)]) (H' := []) (fun A_ W_ hS => sl_set_imp (d := vbool true) 4 (vbool (decide (a = b))) (by kernel_rfl) ?_ hS) ?_
        · refine imp_eq (congrArg (fun x => D.p (eB x)) (a₁ := true) (a₂ := (decide (a = b))) ?_)
          exact (decide_eq_true (ext_getD [] (by omega) (fun j hj => hi0_1 j (by omega)))).symm
        refine tr_pre (E' := [(4, none, vbool (decide (a = b)))]) (H' := []) (fun A_ W_ hS => sl_proj (ts := [4]) (by kernel_rfl) hS) ?_
        exact tr_return' (vc := []) (ds := [vbool (decide (a = b))]) (by kernel_rfl) trivial (by kernel_rfl) (fun _ _ h => h)
theorem same_ok (a : Lang) (b : Lang) (hb0 : a.Accept.length < 4611686018427387904) (hb1 : a.Next.length < 4611686018427387904) (hb2 : ∀ j, j < a.Next.length → (a.Next.getD j []).length < 4611686018427387904) : Pure Try.prog 13 [eLang a, eLang b] (vbool (decide (a = b))) := by
  refine pure_of (fn := Try.f13) Try.func13 rfl rfl fun F_ W0_ => ?_
  refine tr_seq ?_
  refine tr_r (vc := []) (E' := [(2, none, .ref 0 []), (3, none, .ref 1 [])]) (H' := [.box (.p (eLang a)), .box (.p (eLang b))]) [] [] [2, 3] (by kernel_rfl) ?_ ?_
  · exact trivial
  refine tr_then (tr_seq ?_)
  refine tr_seq ?_
  refine tr_r (vc := [(!(((a.Accept.length : Nat) : Int) != ((b.Accept.length : Nat) : Int))) = true → (!(((a.Accept.length : Nat) : Int) != ((b.Accept.length : Nat) : Int))) = true, (!(((a.Accept.length : Nat) : Int) != ((b.Accept.length : Nat) : Int))) = true → (!(((a.Accept.length : Nat) : Int) != ((b.Accept.length : Nat) : Int))) = true, (!(((a.Accept.length : Nat) : Int) != ((b.Accept.length : Nat) : Int))) = true → (!(((a.Accept.length : Nat) : Int) != ((b.Accept.length : Nat) : Int))) = true, (!(((a.Accept.length : Nat) : Int) != ((b.Accept.length : Nat) : Int))) = true → (!(((a.Accept.length : Nat) : Int) != ((b.Accept.length : Nat) : Int))) = true, (!(((a.Accept.length : Nat) : Int) != ((b.Accept.length : Nat) : Int))) = true → (!(((a.Accept.length : Nat) : Int) != ((b.Accept.length : Nat) : Int))) = true, (!(((a.Accept.length : Nat) : Int) != ((b.Accept.length : Nat) : Int))) = true → (!(((a.Accept.length : Nat) : Int) != ((b.Accept.length : Nat) : Int))) = true, (!(((a.Accept.length : Nat) : Int) != ((b.Accept.length : Nat) : Int))) = true → (!(((a.Accept.length : Nat) : Int) != ((b.Accept.length : Nat) : Int))) = true]) (E' := [(2, none, .ref 0 []), (3, none, .ref 1 []), (23, none, vbool ((((a.Accept.length : Nat) : Int) != ((b.Accept.length : Nat) : Int)) || (((a.Next.length : Nat) : Int) != ((b.Next.length : Nat) : Int))))]) (H' := [.box (.p (eLang a)), .box (.p (eLang b))]) [] [] [2, 3, 23] (by kernel_rfl) ?_ ?_
  · refine al ?_ (al ?_ (al ?_ (al ?_ (al ?_ (al ?_ (al ?_ (trivial)))))))
    · exact id
    · exact id
    · exact id
    · exact id
    · exact id
    · exact id
    · exact id
  refine tr_then ?_
  refine tr_condP ((((a.Accept.length : Nat) : Int) != ((b.Accept.length : Nat) : Int)) || (((a.Next.length : Nat) : Int) != ((b.Next.length : Nat) : Int))) ((((a.Accept.length : Nat) : Int) ≠ ((b.Accept.length : Nat) : Int)) ∨ (((a.Next.length : Nat) : Int) ≠ ((b.Next.length : Nat) : Int))) (by simp) (by kernel_rfl) (fun hc1 => ?_) (fun hc1 => ?_)
  · skip
    refine tr_seq ?_
    refine tr_r (vc := []) (E' := [(4, none, vbool false)]) (H' := [.box (.p (eLang a)), .box (.p (eLang b))]) [] [] [4] (by kernel_rfl) ?_ ?_
    · exact trivial
    refine tr_then ?_
    refine tr_pre (E' := [(4, none, vbool false)]) (H' := []) (fun A_ W_ hS => sl_weak (vc := []) [] [4] (by kernel_rfl) trivial hS) ?_
    refine tr_pre (E' := (4, none, vbool (decide (a = b))) :: [(4, none, vbool false)]) (H' := []) (fun A_ W_ hS => sl_set_imp (d := vbool false) 4 (vbool (decide (a = b))) (by kernel_rfl) ?_ hS) ?_
    · refine imp_eq (congrArg (fun x => D.p (eB x)) (a₁ := false) (a₂ := (decide (a = b))) ?_)
      first | rfl | (simp; done) | omega | (simp_all; done) | grind
    refine tr_pre (E' := [(4, none, vbool (decide (a = b)))]) (H' := []) (fun A_ W_ hS => sl_proj (ts := [4]) (by kernel_rfl) hS) ?_
    exact tr_return' (vc := []) (ds := [vbool (decide (a = b))]) (by kernel_rfl) trivial (by kernel_rfl) (fun _ _ h => h)
  · skip
    refine tr_skip ?_
    refine tr_then (tr_seq ?_)
    refine tr_seq ?_
    refine tr_r (vc := []) (E' := [(2, none, .ref 0 []), (3, none, .ref 1 []), (5, none, vint .i64 0)]) (H' := [.box (.p (eLang a)), .box (.p (eLang b))]) [] [] [2, 3, 5] (by kernel_rfl) ?_ ?_
    · exact trivial
    refine tr_then ?_
    refine tr_block ?_
    refine tr_loop (α := Nat) (fun z : Nat => (fun (i : Nat) => [(2, none, .ref 0 []), (3, none, .ref 1 []), (5, none, vint .i64 ((i : Nat) : Int))]) z) (fun z : Nat => (fun (i : Nat) => [.box (.p (eLang a)), .box (.p (eLang b))]) z) (fun z : Nat => (fun (i : Nat) => (i ≤ a.Accept.length) ∧ (∀ j, j < i → a.Accept.getD j false = b.Accept.getD j false)) z) (fun z : Nat => (fun (i : Nat) => a.Accept.length - i) z) 0 ?_ ?_ ?_
    · show (0 ≤ a.Accept.length) ∧ (∀ j, j < 0 → a.Accept.getD j false = b.Accept.getD j false)
      refine ⟨?_, ?_⟩
      · omega
      · omega
    · intro A_ W_ hS
      replace hS := sl_set (d := vint .i64 0) 5 (vint .i64 ((0 : Nat) : Int)) (by kernel_rfl) (eqD_int (by omega)) hS
      exact sl_weak (vc := []) [0, 1] [2, 3, 5] (by kernel_rfl) trivial hS
    · intro z hz
      revert z; intro i hz
      have hz : (i ≤ a.Accept.length) ∧ (∀ j, j < i → a.Accept.getD j false = b.Accept.getD j false) := hz
      obtain ⟨hi0_0, hi0_1⟩ := hz
      refine tr_seq ?_
      refine tr_seq ?_
      refine tr_r (vc := []) (E' := [(2, none, .ref 0 []), (3, none, .ref 1 []), (5, none, vint .i64 ((i : Nat) : Int)), (28, none, vbool (decide (((i : Nat) : Int) < ((a.Accept.length : Nat) : Int))))]) (H' := [.box (.p (eLang a)), .box (.p (eLang b))]) [] [] [2, 3, 5, 28] (by kernel_rfl) ?_ ?_
      · exact trivial
      refine tr_then ?_
      refine tr_condP (decide (((i : Nat) : Int) < ((a.Accept.length : Nat) : Int))) (((i : Nat) : Int) < ((a.Accept.length : Nat) : Int)) (by simp) (by kernel_rfl) (fun hc2 => ?_) (fun hc2 => ?_)
      · skip
        refine tr_skip ?_
        refine tr_then (tr_seq ?_)
        refine tr_block ?_
        refine tr_seq ?_
        refine tr_d (vc := [(0 : Int) ≤ ((i : Nat) : Int), ((i : Nat) : Int) < (a.Accept.length : Int), (0 : Int) ≤ ((i : Nat) : Int), ((i : Nat) : Int) < (b.Accept.length : Int)]) (E' := [(2, none, .ref 0 []), (3, none, .ref 1 []), (5, none, vint .i64 ((i : Nat) : Int)), (41, none, vbool (!((a.Accept.getD i false) == (b.Accept.getD i false))))]) [] [] [2, 3, 5, 41] (by kernel_rfl) (by kernel_rfl) (by kernel_rfl) ?_ ?_
        · refine al ?_ (al ?_ (al ?_ (al ?_ (trivial))))
          · omega
          · omega
          · omega
          · omega
        refine tr_then ?_
        refine tr_condP (!((a.Accept.getD i false) == (b.Accept.getD i false))) (¬ (a.Accept.getD i false) = (b.Accept.getD i false)) (by simp) (by kernel_rfl) (fun hc3 => ?_) (fun hc3 => ?_)
        · skip
          refine tr_seq ?_
          refine tr_r (vc := []) (E' := [(4, none, vbool false)]) (H' := [.box (.p (eLang a)), .box (.p (eLang b))]) [] [] [4] (by kernel_rfl) ?_ ?_
          · exact trivial
          refine tr_then ?_
          refine tr_pre (E' := [(4, none, vbool false)]) (H' := []) (fun A_ W_ hS => sl_weak (vc := []) [] [4] (by kernel_rfl) trivial hS) ?_
          refine tr_pre (E' := (4, none, vbool (decide (a = b))) :: [(4, none, vbool false)]) (H' := []) (fun A_ W_ hS => sl_set_imp (d := vbool false) 4 (vbool (decide (a = b))) (by kernel_rfl) ?_ hS) ?_
          · refine imp_eq (congrArg (fun x => D.p (eB x)) (a₁ := false) (a₂ := (decide (a = b))) ?_)
            first | rfl | (simp; done) | omega | (simp_all; done) | grind
          refine tr_pre (E' := [(4, none, vbool (decide (a = b)))]) (H' := []) (fun A_ W_ hS => sl_proj (ts := [4]) (by kernel_rfl) hS) ?_
          exact tr_return' (vc := []) (ds := [vbool (decide (a = b))]) (by kernel_rfl) trivial (by kernel_rfl) (fun _ _ h => h)
        · skip
          refine tr_skip ?_
          refine in_n ?_
          refine tr_then ?_
          refine tr_r (vc := [(IntKind.wrap .i64 (((i : Nat) : Int) + 1)) = (((i + 1) : Nat) : Int)]) (E' := [(2, none, .ref 0 []), (3, none, .ref 1 []), (5, none, vint .i64 (((i + 1) : Nat) : Int))]) (H' := [.box (.p (eLang a)), .box (.p (eLang b))]) [(1, vint .i64 (((i + 1) : Nat) : Int))] [] [2, 3, 5] (by kernel_rfl) ?_ ?_
          · refine al ?_ (trivial)
            · exact wr64 (by omega) (by omega) (by omega)
          refine lp_end (i + 1) ?_ ?_ ?_
          · show ((i + 1) ≤ a.Accept.length) ∧ (∀ j, j < (i + 1) → a.Accept.getD j false = b.Accept.getD j false)
            refine ⟨?_, ?_⟩
            · omega
            · grind
          · show a.Accept.length - (i + 1) < a.Accept.length - i
            omega
          · intro A_ W_ hS
            exact sl_weak (vc := []) [0, 1] [2, 3, 5] (by kernel_rfl) trivial hS
      · skip
        refine tr_exit ?_
        refine th_e ?_
        refine th_e ?_
        refine in_hit ?_
        refine tr_then (tr_seq ?_)
        refine tr_seq ?_
        refine tr_r (vc := []) (E' := [(2, none, .ref 0 []), (3, none, .ref 1 []), (6, none, vint .i64 0)]) (H' := [.box (.p (eLang a)), .box (.p (eLang b))]) [] [] [2, 3, 6] (by kernel_rfl) ?_ ?_
        · exact trivial
        refine tr_then ?_
        refine tr_block ?_
        refine tr_loop (α := Nat) (fun z : Nat => (fun (i : Nat) => [(2, none, .ref 0 []), (3, none, .ref 1 []), (6, none, vint .i64 ((i : Nat) : Int))]) z) (fun z : Nat => (fun (i : Nat) => [.box (.p (eLang a)), .box (.p (eLang b))]) z) (fun z : Nat => (fun (i : Nat) => (i ≤ a.Next.length) ∧ (∀ j, j < i → a.Next.getD j [] = b.Next.getD j [])) z) (fun z : Nat => (fun (i : Nat) => a.Next.length - i) z) 0 ?_ ?_ ?_
        · show (0 ≤ a.Next.length) ∧ (∀ j, j < 0 → a.Next.getD j [] = b.Next.getD j [])
          refine ⟨?_, ?_⟩
          · omega
          · omega
        · intro A_ W_ hS
          replace hS := sl_set (d := vint .i64 0) 6 (vint .i64 ((0 : Nat) : Int)) (by kernel_rfl) (eqD_int (by omega)) hS
          exact sl_weak (vc := []) [0, 1] [2, 3, 6] (by kernel_rfl) trivial hS
        · intro z hz
          revert z; intro i hz
          have hz : (i ≤ a.Next.length) ∧ (∀ j, j < i → a.Next.getD j [] = b.Next.getD j []) := hz
          obtain ⟨hi1_0, hi1_1⟩ := hz
          refine tr_seq ?_
          refine tr_seq ?_
          refine tr_r (vc := []) (E' := [(2, none, .ref 0 []), (3, none, .ref 1 []), (6, none, vint .i64 ((i : Nat) : Int)), (46, none, vbool (decide (((i : Nat) : Int) < ((a.Next.length : Nat) : Int))))]) (H' := [.box (.p (eLang a)), .box (.p (eLang b))]) [] [] [2, 3, 6, 46] (by kernel_rfl) ?_ ?_
          · exact trivial
          refine tr_then ?_
          refine tr_condP (decide (((i : Nat) : Int) < ((a.Next.length : Nat) : Int))) (((i : Nat) : Int) < ((a.Next.length : Nat) : Int)) (by simp) (by kernel_rfl) (fun hc4 => ?_) (fun hc4 => ?_)
          · skip
            refine tr_skip ?_
            refine tr_then (tr_seq ?_)
            refine tr_block ?_
            refine tr_seq ?_
            refine tr_seq ?_
            refine tr_d (vc := [(0 : Int) ≤ ((i : Nat) : Int), ((i : Nat) : Int) < (a.Next.length : Int), (0 : Int) ≤ ((i : Nat) : Int), ((i : Nat) : Int) < (b.Next.length : Int)]) (E' := [(2, none, .ref 0 []), (3, none, .ref 1 []), (6, none, vint .i64 ((i : Nat) : Int)), (61, none, vbool ((((a.Next.getD i []).length : Nat) : Int) != (((b.Next.getD i []).length : Nat) : Int)))]) [] [] [2, 3, 6, 61] (by kernel_rfl) (by kernel_rfl) (by kernel_rfl) ?_ ?_
            · refine al ?_ (al ?_ (al ?_ (al ?_ (trivial))))
              · omega
              · omega
              · omega
              · omega
            refine tr_then ?_
            refine tr_condP ((((a.Next.getD i []).length : Nat) : Int) != (((b.Next.getD i []).length : Nat) : Int)) ((((a.Next.getD i []).length : Nat) : Int) ≠ (((b.Next.getD i []).length : Nat) : Int)) (by simp) (by kernel_rfl) (fun hc5 => ?_) (fun hc5 => ?_)
            · skip
              refine tr_seq ?_
              refine tr_r (vc := []) (E' := [(4, none, vbool false)]) (H' := [.box (.p (eLang a)), .box (.p (eLang b))]) [] [] [4] (by kernel_rfl) ?_ ?_
              · exact trivial
              refine tr_then ?_
              refine tr_pre (E' := [(4, none, vbool false)]) (H' := []) (fun A_ W_ hS => sl_weak (vc := []) [] [4] (by kernel_rfl) trivial hS) ?_
              refine tr_pre (E' := (4, none, vbool (decide (a = b))) :: [(4, none, vbool false)]) (H' := []) (fun A_ W_ hS => sl_set_imp (d := vbool false) 4 (vbool (decide (a = b))) (by kernel_rfl) ?_ hS) ?_
              · refine imp_eq (congrArg (fun x => D.p (eB x)) (a₁ := false) (a₂ := (decide (a = b))) ?_)
                first | rfl | (simp; done) | omega | (simp_all; done) | grind
              refine tr_pre (E' := [(4, none, vbool (decide (a = b)))]) (H' := []) (fun A_ W_ hS => sl_proj (ts := [4]) (by kernel_rfl) hS) ?_
              exact tr_return' (vc := []) (ds := [vbool (decide (a = b))]) (by kernel_rfl) trivial (by kernel_rfl) (fun _ _ h => h)
            · skip
              refine tr_skip ?_
              refine tr_then (tr_seq ?_)
              refine tr_r (vc := []) (E' := [(2, none, .ref 0 []), (3, none, .ref 1 []), (6, none, vint .i64 ((i : Nat) : Int)), (7, none, vint .i64 0)]) (H' := [.box (.p (eLang a)), .box (.p (eLang b))]) [] [] [2, 3, 6, 7] (by kernel_rfl) ?_ ?_
              · exact trivial
              refine tr_then ?_
              refine tr_block ?_
              refine tr_loop (α := Nat) (fun z : Nat => (fun (k : Nat) => [(2, none, .ref 0 []), (3, none, .ref 1 []), (6, none, vint .i64 ((i : Nat) : Int)), (7, none, vint .i64 ((k : Nat) : Int))]) z) (fun z : Nat => (fun (k : Nat) => [.box (.p (eLang a)), .box (.p (eLang b))]) z) (fun z : Nat => (fun (k : Nat) => (k ≤ (a.Next.getD i []).length) ∧ (∀ j, j < k → (a.Next.getD i []).getD j 0 = (b.Next.getD i []).getD j 0)) z) (fun z : Nat => (fun (k : Nat) => (a.Next.getD i []).length - k) z) 0 ?_ ?_ ?_
              · show (0 ≤ (a.Next.getD i []).length) ∧ (∀ j, j < 0 → (a.Next.getD i []).getD j 0 = (b.Next.getD i []).getD j 0)
                refine ⟨?_, ?_⟩
                · omega
                · omega
              · intro A_ W_ hS
                replace hS := sl_set (d := vint .i64 0) 7 (vint .i64 ((0 : Nat) : Int)) (by kernel_rfl) (eqD_int (by omega)) hS
                exact sl_weak (vc := []) [0, 1] [2, 3, 6, 7] (by kernel_rfl) trivial hS
              · intro z hz
                revert z; intro k hz
                have hz : (k ≤ (a.Next.getD i []).length) ∧ (∀ j, j < k → (a.Next.getD i []).getD j 0 = (b.Next.getD i []).getD j 0) := hz
                obtain ⟨hi2_0, hi2_1⟩ := hz
                have hw := hb2 i
                refine tr_seq ?_
                refine tr_seq ?_
                refine tr_r (vc := [(0 : Int) ≤ ((i : Nat) : Int), ((i : Nat) : Int) < (a.Next.length : Int)]) (E' := [(2, none, .ref 0 []), (3, none, .ref 1 []), (6, none, vint .i64 ((i : Nat) : Int)), (7, none, vint .i64 ((k : Nat) : Int)), (69, none, vbool (decide (((k : Nat) : Int) < (((a.Next.getD i []).length : Nat) : Int))))]) (H' := [.box (.p (eLang a)), .box (.p (eLang b))]) [] [] [2, 3, 6, 7, 69] (by kernel_rfl) ?_ ?_
                · refine al ?_ (al ?_ (trivial))
                  · omega
                  · omega
                refine tr_then ?_
                refine tr_condP (decide (((k : Nat) : Int) < (((a.Next.getD i []).length : Nat) : Int))) (((k : Nat) : Int) < (((a.Next.getD i []).length : Nat) : Int)) (by simp) (by kernel_rfl) (fun hc6 => ?_) (fun hc6 => ?_)
                · skip
                  refine tr_skip ?_
                  refine tr_then (tr_seq ?_)
                  refine tr_block ?_
                  refine tr_seq ?_
                  refine tr_d (vc := [(0 : Int) ≤ ((i : Nat) : Int), ((i : Nat) : Int) < (a.Next.length : Int), (0 : Int) ≤ ((k : Nat) : Int), ((k : Nat) : Int) < ((a.Next.getD i []).length : Int), (0 : Int) ≤ ((i : Nat) : Int), ((i : Nat) : Int) < (b.Next.length : Int), (0 : Int) ≤ ((k : Nat) : Int), ((k : Nat) : Int) < ((b.Next.getD i []).length : Int)]) (E' := [(2, none, .ref 0 []), (3, none, .ref 1 []), (6, none, vint .i64 ((i : Nat) : Int)), (7, none, vint .i64 ((k : Nat) : Int)), (88, none, vbool (((a.Next.getD i []).getD k 0) != ((b.Next.getD i []).getD k 0)))]) [] [] [2, 3, 6, 7, 88] (by kernel_rfl) (by kernel_rfl) (by kernel_rfl) ?_ ?_
                  · refine al ?_ (al ?_ (al ?_ (al ?_ (al ?_ (al ?_ (al ?_ (al ?_ (trivial))))))))
                    · omega
                    · omega
                    · omega
                    · omega
                    · omega
                    · omega
                    · omega
                    · omega
                  refine tr_then ?_
                  refine tr_condP (((a.Next.getD i []).getD k 0) != ((b.Next.getD i []).getD k 0)) (((a.Next.getD i []).getD k 0) ≠ ((b.Next.getD i []).getD k 0)) (by simp) (by kernel_rfl) (fun hc7 => ?_) (fun hc7 => ?_)
                  · skip
                    refine tr_seq ?_
                    refine tr_r (vc := []) (E' := [(4, none, vbool false)]) (H' := [.box (.p (eLang a)), .box (.p (eLang b))]) [] [] [4] (by kernel_rfl) ?_ ?_
                    · exact trivial
                    refine tr_then ?_
                    refine tr_pre (E' := [(4, none, vbool false)]) (H' := []) (fun A_ W_ hS => sl_weak (vc := []) [] [4] (by kernel_rfl) trivial hS) ?_
                    refine tr_pre (E' := (4, none, vbool (decide (a = b))) :: [(4, none, vbool false)]) (H' := []) (fun A_ W_ hS => sl_set_imp (d := vbool false) 4 (vbool (decide (a = b))) (by kernel_rfl) ?_ hS) ?_
                    · refine imp_eq (congrArg (fun x => D.p (eB x)) (a₁ := false) (a₂ := (decide (a = b))) ?_)
                      first | rfl | (simp; done) | omega | (simp_all; done) | grind
                    refine tr_pre (E' := [(4, none, vbool (decide (a = b)))]) (H' := []) (fun A_ W_ hS => sl_proj (ts := [4]) (by kernel_rfl) hS) ?_
                    exact tr_return' (vc := []) (ds := [vbool (decide (a = b))]) (by kernel_rfl) trivial (by kernel_rfl) (fun _ _ h => h)
                  · skip
                    refine tr_skip ?_
                    refine in_n ?_
                    refine tr_then ?_
                    refine tr_r (vc := [(IntKind.wrap .i64 (((k : Nat) : Int) + 1)) = (((k + 1) : Nat) : Int)]) (E' := [(2, none, .ref 0 []), (3, none, .ref 1 []), (6, none, vint .i64 ((i : Nat) : Int)), (7, none, vint .i64 (((k + 1) : Nat) : Int))]) (H' := [.box (.p (eLang a)), .box (.p (eLang b))]) [(1, vint .i64 (((k + 1) : Nat) : Int))] [] [2, 3, 6, 7] (by kernel_rfl) ?_ ?_
                    · refine al ?_ (trivial)
                      · exact wr64 (by omega) (by omega) (by omega)
                    refine lp_end (k + 1) ?_ ?_ ?_
                    · show ((k + 1) ≤ (a.Next.getD i []).length) ∧ (∀ j, j < (k + 1) → (a.Next.getD i []).getD j 0 = (b.Next.getD i []).getD j 0)
                      refine ⟨?_, ?_⟩
                      · omega
                      · grind
                    · show (a.Next.getD i []).length - (k + 1) < (a.Next.getD i []).length - k
                      omega
                    · intro A_ W_ hS
                      exact sl_weak (vc := []) [0, 1] [2, 3, 6, 7] (by kernel_rfl) trivial hS
                · skip
                  refine tr_exit ?_
                  refine th_e ?_
                  refine th_e ?_
                  refine in_hit ?_
                  refine in_n ?_
                  refine tr_then ?_
                  refine tr_r (vc := [(IntKind.wrap .i64 (((i : Nat) : Int) + 1)) = (((i + 1) : Nat) : Int)]) (E' := [(2, none, .ref 0 []), (3, none, .ref 1 []), (6, none, vint .i64 (((i + 1) : Nat) : Int))]) (H' := [.box (.p (eLang a)), .box (.p (eLang b))]) [(1, vint .i64 (((i + 1) : Nat) : Int))] [] [2, 3, 6] (by kernel_rfl) ?_ ?_
                  · refine al ?_ (trivial)
                    · exact wr64 (by omega) (by omega) (by omega)
                  refine lp_end (i + 1) ?_ ?_ ?_
                  · show ((i + 1) ≤ a.Next.length) ∧ (∀ j, j < (i + 1) → a.Next.getD j [] = b.Next.getD j [])
                    refine ⟨?_, ?_⟩
                    · omega
                    · exact fun j hj => (by by_cases e : j = i; (subst e; exact ext_getD 0 (by omega) (fun m hm => hi2_1 m (by omega))); exact hi1_1 j (by omega))
                  · show a.Next.length - (i + 1) < a.Next.length - i
                    omega
                  · intro A_ W_ hS
                    exact sl_weak (vc := []) [0, 1] [2, 3, 6] (by kernel_rfl) trivial hS
          · skip
            refine tr_exit ?_
            refine th_e ?_
            refine th_e ?_
            refine in_hit ?_
            refine tr_then (tr_seq ?_)
            refine tr_r (vc := []) (E' := [(4, none, vbool true)]) (H' := [.box (.p (eLang a)), .box (.p (eLang b))]) [] [] [4] (by kernel_rfl) ?_ ?_
            · exact trivial
            refine tr_then ?_
            refine tr_pre (E' := [(4, none, vbool true)]) (H' := []) (fun A_ W_ hS => sl_weak (vc := []) [] [4] (by kernel_rfl) trivial hS) ?_
            refine tr_pre (E' := (4, none, vbool (decide (a = b))) :: [(4, none, vbool true)]) (H' := []) (fun A_ W_ hS => sl_set_imp (d := vbool true) 4 (vbool (decide (a = b))) (by kernel_rfl) ?_ hS) ?_
            · refine imp_eq (congrArg (fun x => D.p (eB x)) (a₁ := true) (a₂ := (decide (a = b))) ?_)
              exact (decide_eq_true (lang_ext (ext_getD false (by omega) (fun j hj => hi0_1 j (by omega))) (ext_getD [] (by omega) (fun j hj => hi1_1 j (by omega))))).symm
            refine tr_pre (E' := [(4, none, vbool (decide (a = b)))]) (H' := []) (fun A_ W_ hS => sl_proj (ts := [4]) (by kernel_rfl) hS) ?_
            exact tr_return' (vc := []) (ds := [vbool (decide (a = b))]) (by kernel_rfl) trivial (by kernel_rfl) (fun _ _ h => h)
theorem cut_ok (l : List Int) : Pure Try.prog 10 [(eL eI 1 0) l] (.p ((eL eI 1 0) (l.take 24))) := by
  refine pure_of (fn := Try.f10) Try.func10 rfl rfl fun F_ W0_ => ?_
  refine tr_seq ?_
  refine tr_r (vc := []) (E' := [(0, none, .p ((eL eI 1 0) l))]) (H' := []) [] [] [0] (by kernel_rfl) ?_ ?_
  · exact trivial
  refine tr_then (tr_seq ?_)
  refine tr_r (vc := [(min ((l.length : Nat) : Int) 24) = (((min l.length 24) : Nat) : Int), (0 : Int) ≤ 0, 0 ≤ (((min l.length 24) : Nat) : Int), (((min l.length 24) : Nat) : Int) ≤ (l.length : Int), ((min l.length 24) - 0) = (l.take (min l.length 24)).length ∧ ∀ j, j < ((min l.length 24) - 0) → eI (l.getD (0 + j) 0) = eI ((l.take (min l.length 24)).getD j 0)]) (E' := [(2, none, .p ((eL eI 1 0) (l.take (min l.length 24))))]) (H' := []) [(3, vint .i64 (((min l.length 24) : Nat) : Int)), (4, .p ((eL eI 1 0) (l.take (min l.length 24))))] [] [2] (by kernel_rfl) ?_ ?_
  · refine al ?_ (al ?_ (al ?_ (al ?_ (al ?_ (trivial)))))
    · omega
    · omega
    · omega
    · omega
    · exact cut_take (by omega)
  refine tr_then ?_
  refine tr_pre (E' := (2, none, .p ((eL eI 1 0) (l.take 24))) :: [(2, none, .p ((eL eI 1 0) (l.take (min l.length 24))))]) (H' := []) (fun A_ W_ hS => sl_set_imp (d := .p ((eL eI 1 0) (l.take (min l.length 24)))) 2 (.p ((eL eI 1 0) (l.take 24))) (by kernel_rfl) ?_ hS) ?_
  · refine imp_eq (congrArg (fun x => D.p ((eL eI 1 0) x)) (a₁ := (l.take (min l.length 24))) (a₂ := (l.take 24)) ?_)
    first | rfl | (simp; done) | omega | (simp_all; done) | grind
  refine tr_pre (E' := [(2, none, .p ((eL eI 1 0) (l.take 24)))]) (H' := []) (fun A_ W_ hS => sl_proj (ts := [2]) (by kernel_rfl) hS) ?_
  exact tr_return' (vc := []) (ds := [.p ((eL eI 1 0) (l.take 24))]) (by kernel_rfl) trivial (by kernel_rfl) (fun _ _ h => h)
end Go.Proofs.Ytjnjmnfacaakfaa
namespace Go.Proofs.Ytjnjmnfacaakfaa
open Go.Eng
structure Draw where
  L : (List Int) := []
  At : Int := 0
deriving DecidableEq
def eDraw (x : Draw) : PV := .agg [(eL eI 1 0) x.L, eI x.At]
def nextV (d : Draw) (n : Int) : Int := if d.At.toNat < d.L.length then d.L.getD d.At.toNat 0 % n else 0
def nextD (d : Draw) : Draw := if d.At.toNat < d.L.length then { d with At := d.At + 1 } else d
theorem next_ok (d : Draw) (n : Int) (h0 : 0 < n) (h1 : n < 4611686018427387904) (h2 : 0 ≤ d.At) (h3 : d.At < 4611686018427387904) (h4 : d.L.length < 4611686018427387904) : Mut Try.prog 30 (eDraw d) [.v (.int .i64 n)] (eDraw (nextD d)) (vint .i64 (nextV d n)) := by
  refine mut_of (fn := Try.f30) Try.func30 rfl rfl fun F_ W0_ b0_ => ?_
  refine tr_seq ?_
  refine tr_r (vc := []) (E' := [(0, none, .ref 0 []), (1, none, vint .i64 n)]) (H' := [.box (.p (eDraw d))]) [] [] [0, 1] (by kernel_rfl) ?_ ?_
  · exact trivial
  refine tr_then (tr_seq ?_)
  refine tr_seq ?_
  refine tr_d (vc := []) (E' := [(0, none, .ref 0 []), (1, none, vint .i64 n), (14, none, vbool (decide (((d.L.length : Nat) : Int) ≤ d.At)))]) [] [] [0, 1, 14] (by kernel_rfl) (by kernel_rfl) (by kernel_rfl) ?_ ?_
  · exact trivial
  refine tr_then ?_
  refine tr_condP (decide (((d.L.length : Nat) : Int) ≤ d.At)) (((d.L.length : Nat) : Int) ≤ d.At) (by simp) (by kernel_rfl) (fun hc1 => ?_) (fun hc1 => ?_)
  · skip
    refine tr_seq ?_
    refine tr_r (vc := []) (E' := [(4, none, vint .i64 0)]) (H' := [.box (.p (eDraw d))]) [] [] [4] (by kernel_rfl) ?_ ?_
    · exact trivial
    refine tr_then ?_
    refine tr_pre (E' := [(4, none, vint .i64 0)]) (H' := [.box (.p (eDraw d))]) (fun A_ W_ hS => sl_weak (vc := []) [0] [4] (by kernel_rfl) trivial hS) ?_
    refine tr_pre (E' := (4, none, vint .i64 (nextV d n)) :: [(4, none, vint .i64 0)]) (H' := [.box (.p (eDraw d))]) (fun A_ W_ hS => sl_set_imp (d := vint .i64 0) 4 (vint .i64 (nextV d n)) (by kernel_rfl) ?_ hS) ?_
    · refine imp_eq (congrArg (fun x => D.p (eI x)) (a₁ := 0) (a₂ := (nextV d n)) ?_)
      rw [nextV, if_neg (by omega)]
    refine tr_pre (E' := [(4, none, vint .i64 (nextV d n))]) (H' := [.box (.p (eDraw d))]) (fun A_ W_ hS => sl_proj (ts := [4]) (by kernel_rfl) hS) ?_
    refine tr_pre (E' := [(4, none, vint .i64 (nextV d n))]) (H' := [.box (.p (eDraw (nextD d)))]) (fun A_ W_ hS => sl_obj_imp (d := .p (eDraw d)) 0 (.p (eDraw (nextD d))) (by kernel_rfl) ?_ hS) ?_
    · refine impC_eq ?_
      rw [nextD, if_neg (by omega)]
    exact tr_returnM (x1 := (eDraw (nextD d))) (vc := []) (ds := [vint .i64 (nextV d n)]) (by kernel_rfl) trivial (by kernel_rfl) (by kernel_rfl) (fun _ _ h => h)
  · skip
    refine tr_skip ?_
    refine tr_then (tr_seq ?_)
    refine tr_r (vc := [(IntKind.wrap .i64 (d.At + 1)) = (d.At + 1)]) (E' := [(0, none, .ref 0 []), (1, none, vint .i64 n)]) (H' := [.box (.p (.agg [(eL eI 1 0) d.L, .v (.int .i64 (d.At + 1))]))]) [(4, vint .i64 (d.At + 1))] [] [0, 1] (by kernel_rfl) ?_ ?_
    · refine al ?_ (trivial)
      · exact wr64 (by omega) (by omega) (by omega)
    refine tr_then (tr_seq ?_)
    refine tr_d (vc := [(IntKind.wrap .i64 ((d.At + 1) - 1)) = ((d.At + 1) - 1), (0 : Int) ≤ ((d.At + 1) - 1), ((d.At + 1) - 1) < (d.L.length : Int), Pure Try.prog 19 [.v (.int .i64 (d.L.getD (((d.At + 1) - 1).toNat) 0)), .v (.int .i64 n)] (vint .i64 ((d.L.getD (((d.At + 1) - 1).toNat) 0) % n))]) (E' := [(4, none, vint .i64 ((d.L.getD (((d.At + 1) - 1).toNat) 0) % n))]) [(8, vint .i64 ((d.At + 1) - 1))] [(12, vint .i64 ((d.L.getD (((d.At + 1) - 1).toNat) 0) % n))] [4] (by kernel_rfl) (by kernel_rfl) (by kernel_rfl) ?_ ?_
    · refine al ?_ (al ?_ (al ?_ (al ?_ (trivial))))
      · exact wr64 (by omega) (by omega) (by omega)
      · omega
      · omega
      · exact mod_ok _ _ (by omega) (by omega)
    refine tr_then ?_
    refine tr_pre (E' := [(4, none, vint .i64 ((d.L.getD (((d.At + 1) - 1).toNat) 0) % n))]) (H' := [.box (.p (.agg [(eL eI 1 0) d.L, .v (.int .i64 (d.At + 1))]))]) (fun A_ W_ hS => sl_weak (vc := []) [0] [4] (by kernel_rfl) trivial hS) ?_
    refine tr_pre (E' := (4, none, vint .i64 (nextV d n)) :: [(4, none, vint .i64 ((d.L.getD (((d.At + 1) - 1).toNat) 0) % n))]) (H' := [.box (.p (.agg [(eL eI 1 0) d.L, .v (.int .i64 (d.At + 1))]))]) (fun A_ W_ hS => sl_set_imp (d := vint .i64 ((d.L.getD (((d.At + 1) - 1).toNat) 0) % n)) 4 (vint .i64 (nextV d n)) (by kernel_rfl) ?_ hS) ?_
    · refine imp_eq (congrArg (fun x => D.p (eI x)) (a₁ := ((d.L.getD (((d.At + 1) - 1).toNat) 0) % n)) (a₂ := (nextV d n)) ?_)
      rw [nextV, if_pos (by omega), show d.At + 1 - 1 = d.At by omega]
    refine tr_pre (E' := [(4, none, vint .i64 (nextV d n))]) (H' := [.box (.p (.agg [(eL eI 1 0) d.L, .v (.int .i64 (d.At + 1))]))]) (fun A_ W_ hS => sl_proj (ts := [4]) (by kernel_rfl) hS) ?_
    refine tr_pre (E' := [(4, none, vint .i64 (nextV d n))]) (H' := [.box (.p (eDraw (nextD d)))]) (fun A_ W_ hS => sl_obj_imp (d := .p (.agg [(eL eI 1 0) d.L, .v (.int .i64 (d.At + 1))])) 0 (.p (eDraw (nextD d))) (by kernel_rfl) ?_ hS) ?_
    · refine impC_eq ?_
      rw [nextD, if_pos (by omega)]; rfl
    exact tr_returnM (x1 := (eDraw (nextD d))) (vc := []) (ds := [vint .i64 (nextV d n)]) (by kernel_rfl) trivial (by kernel_rfl) (by kernel_rfl) (fun _ _ h => h)
end Go.Proofs.Ytjnjmnfacaakfaa
namespace Go.Eng
theorem wrap_u64 {n : Nat} (h : n < 2 ^ 64) : IntKind.wrap .u64 (n : Int) = (n : Int) := by
  rw [IntKind.wrap_u64]; omega
theorem ofInt_toNat {n : Nat} (h : n < 2 ^ 64) : (BitVec.ofInt 64 (n : Int)).toNat = n := by
  rw [BitVec.toNat_ofInt]; omega
theorem or_u64 {a b : Nat} (ha : a < 2 ^ 64) (hb : b < 2 ^ 64) : bitsOf .or .u64 (a : Int) (b : Int) = ((a ||| b : Nat) : Int) := by
  show IntKind.wrap .u64 ((BitVec.ofInt 64 (a : Int) ||| BitVec.ofInt 64 (b : Int)).toNat : Int) = _
  rw [BitVec.toNat_or, ofInt_toNat ha, ofInt_toNat hb, wrap_u64 (Nat.or_lt_two_pow ha hb)]
theorem and_u64 {a b : Nat} (ha : a < 2 ^ 64) (hb : b < 2 ^ 64) : bitsOf .and .u64 (a : Int) (b : Int) = ((a &&& b : Nat) : Int) := by
  show IntKind.wrap .u64 ((BitVec.ofInt 64 (a : Int) &&& BitVec.ofInt 64 (b : Int)).toNat : Int) = _
  rw [BitVec.toNat_and, ofInt_toNat ha, ofInt_toNat hb, wrap_u64 (Nat.and_lt_two_pow _ hb)]
theorem shl_u64 {i : Nat} (h : i < 64) : IntKind.wrap .u64 (1 * 2 ^ min ((i : Int)).toNat (IntKind.bits .u64)) = ((2 ^ i : Nat) : Int) := by
  have e : min ((i : Int)).toNat (IntKind.bits .u64) = i := by show min i 64 = i; omega
  rw [e, Int.one_mul]
  have : (2 : Int) ^ i = ((2 ^ i : Nat) : Int) := by simp
  rw [this, wrap_u64 (Nat.pow_lt_pow_right (by omega) h)]
theorem shr_u64 {a i : Nat} (h : i < 64) : ((a : Nat) : Int).fdiv (2 ^ min ((i : Int)).toNat (IntKind.bits .u64)) = ((a >>> i : Nat) : Int) := by
  have e : min ((i : Int)).toNat (IntKind.bits .u64) = i := by show min i 64 = i; omega
  rw [e, Nat.shiftRight_eq_div_pow]
  have : (2 : Int) ^ i = ((2 ^ i : Nat) : Int) := by simp
  rw [this, Int.fdiv_eq_ediv_of_nonneg _ (Int.natCast_nonneg _)]
  rfl
/-- The word of the numbers below n for which f holds. -/
def wordN (f : Nat → Bool) : Nat → Nat
  | 0 => 0
  | n + 1 => wordN f n + (if f n then 2 ^ n else 0)
theorem wordN_lt (f : Nat → Bool) : ∀ n, wordN f n < 2 ^ n
  | 0 => by simp [wordN]
  | n + 1 => by
    have := wordN_lt f n
    simp only [wordN, Nat.pow_succ]
    split <;> omega
theorem wordN_bit (f : Nat → Bool) (i : Nat) : ∀ n, (wordN f n).testBit i = (decide (i < n) && f i)
  | 0 => by simp [wordN]
  | n + 1 => by
    have ih := wordN_bit f i n
    have hl := wordN_lt f n
    simp only [wordN]
    by_cases h : f n = true
    · rw [if_pos h, Nat.add_comm]
      rcases Nat.lt_trichotomy i n with hi | rfl | hi
      · rw [Nat.testBit_two_pow_add_gt hi, ih]
        have : decide (i < n + 1) = decide (i < n) := by simp; omega
        rw [this]
      · rw [Nat.testBit_two_pow_add_eq, ih]
        simp [h]
      · have hlt : 2 ^ n + wordN f n < 2 ^ i := by
          have : 2 ^ (n + 1) ≤ 2 ^ i := Nat.pow_le_pow_right (by omega) (by omega)
          rw [Nat.pow_succ] at this
          omega
        rw [Nat.testBit_lt_two_pow hlt]
        have : decide (i < n + 1) = false := by simp; omega
        rw [this]; rfl
    · rw [if_neg h, Nat.add_zero, ih]
      by_cases hi : i = n
      · subst hi; simp [h]
      · have : decide (i < n + 1) = decide (i < n) := by simp; omega
        rw [this]
/-- One more number. -/
theorem wordN_or (f : Nat → Bool) {i n : Nat} (h : i < n) : wordN f n ||| 2 ^ i = wordN (upd f i true) n := by
  apply Nat.eq_of_testBit_eq
  intro j
  rw [Nat.testBit_or, wordN_bit, wordN_bit, Nat.testBit_two_pow]
  unfold upd
  by_cases hj : j = i
  · subst hj; simp [h]
  · have : decide (i = j) = false := by simp; omega
    rw [this, if_neg hj, Bool.or_false]
/-- Is a number in it? -/
theorem wordN_has (f : Nat → Bool) {i n : Nat} (h : i < n) : (wordN f n >>> i) &&& 1 = if f i then 1 else 0 := by
  have := wordN_bit f i n
  rw [Nat.and_one_is_mod, Nat.shiftRight_eq_div_pow]
  rw [Nat.testBit_eq_decide_div_mod_eq] at this
  have hm : wordN f n / 2 ^ i % 2 = 0 ∨ wordN f n / 2 ^ i % 2 = 1 := by omega
  cases hf : f i with
  | true =>
    rw [hf] at this
    simp [h] at this
    rw [this]; rfl
  | false =>
    rw [hf] at this
    simp at this
    rw [if_neg (by simp)]
    exact this
/-- Two words are equal just where the sets are. -/
theorem wordN_inj {f g : Nat → Bool} {n : Nat} (h : wordN f n = wordN g n) : ∀ i, i < n → f i = g i := by
  intro i hi
  have h1 := wordN_bit f i n
  have h2 := wordN_bit g i n
  rw [h, h2] at h1
  simpa [hi] using h1.symm
theorem wordN_congr {f g : Nat → Bool} : ∀ {n : Nat}, (∀ i, i < n → f i = g i) → wordN f n = wordN g n
  | 0, _ => rfl
  | n + 1, h => by
    simp only [wordN]
    rw [wordN_congr (n := n) (fun i hi => h i (by omega)), h n (by omega)]
theorem quo_nat {n m : Nat} (h : n < 9223372036854775808) : IntKind.wrap .i64 (((n : Nat) : Int).tdiv ((m : Nat) : Int)) = ((n / m : Nat) : Int) := by
  have h1 : ((n : Nat) : Int).tdiv ((m : Nat) : Int) = ((n / m : Nat) : Int) := rfl
  have h2 : n / m ≤ n := Nat.div_le_self n m
  rw [h1]
  generalize n / m = q at *
  exact wr64 (by omega) (by omega) rfl
theorem rem_nat {n m : Nat} : ((n : Nat) : Int).tmod ((m : Nat) : Int) = ((n % m : Nat) : Int) := rfl
/-- A set of places as two words. -/
def setW (S : Nat → Bool) : Nat → Int := fun k => ((wordN (fun i => S (64 * k + i)) 64 : Nat) : Int)
theorem has_bit (S : Nat → Bool) (n : Nat) : bitsOf .and .u64 ((wordN (fun i => S (64 * (n / 64) + i)) 64 >>> (n % 64) : Nat) : Int) 1 = ((if S n then 1 else 0 : Nat) : Int) := by
  have h0 := wordN_lt (fun i => S (64 * (n / 64) + i)) 64
  have h1 : wordN (fun i => S (64 * (n / 64) + i)) 64 >>> (n % 64) < 2 ^ 64 := by
    rw [Nat.shiftRight_eq_div_pow]
    exact Nat.lt_of_le_of_lt (Nat.div_le_self _ _) h0
  have := and_u64 (b := 1) h1 (by omega)
  rw [show ((1 : Nat) : Int) = 1 from rfl] at this
  rw [this, wordN_has _ (by omega)]
  have e : 64 * (n / 64) + n % 64 = n := Nat.div_add_mod n 64
  rw [e]
theorem add_bit (S : Nat → Bool) (n : Nat) : bitsOf .or .u64 (setW S (n / 64)) ((2 ^ (n % 64) : Nat) : Int) = setW (upd S n true) (n / 64) := by
  have h0 := wordN_lt (fun i => S (64 * (n / 64) + i)) 64
  have hm : n % 64 < 64 := Nat.mod_lt _ (by omega)
  unfold setW
  rw [or_u64 h0 (Nat.pow_lt_pow_right (by omega) hm), wordN_or _ hm]
  congr 1
  refine wordN_congr fun i hi => ?_
  have e : 64 * (n / 64) + n % 64 = n := Nat.div_add_mod n 64
  unfold upd
  by_cases h : i = n % 64
  · subst h; rw [if_pos rfl, if_pos e]
  · rw [if_neg h, if_neg (by omega)]
theorem add_set (S : Nat → Bool) (n : Nat) : upd (setW S) (n / 64) (setW (upd S n true) (n / 64)) = setW (upd S n true) := by
  funext k
  by_cases h : k = n / 64
  · subst h; simp [upd]
  · unfold upd
    rw [if_neg h]
    unfold setW
    congr 1
    refine wordN_congr fun i hi => ?_
    simp only
    rw [if_neg (by omega)]
end Go.Eng
namespace Go.Proofs.Ytjnjmnfacaakfaa
open Go.Eng
theorem setHas_ok (S : Nat → Bool) (n : Nat) (h0 : n < 128) : Pure Try.prog 34 [(eA (eK .u64) 1 2) (setW S), .v (.int .i64 ((n : Nat) : Int))] (vbool (S n)) := by
  refine pure_of (fn := Try.f34) Try.func34 rfl rfl fun F_ W0_ => ?_
  refine tr_seq ?_
  refine tr_r (vc := []) (E' := [(1, none, vint .i64 ((n : Nat) : Int)), (2, none, .ref 0 [])]) (H' := [.box (.p ((eA (eK .u64) 1 2) (setW S)))]) [] [] [1, 2] (by kernel_rfl) ?_ ?_
  · exact trivial
  refine tr_then (tr_seq ?_)
  refine tr_r (vc := [(64 : Int) ≠ 0, (IntKind.wrap .i64 (((n : Nat) : Int).tdiv 64)) = (((n / 64) : Nat) : Int), (0 : Int) ≤ (((n / 64) : Nat) : Int), (((n / 64) : Nat) : Int) < (2 : Int), (n / 64) < 2, (64 : Int) ≠ 0, (((n : Nat) : Int).tmod 64) = (((n % 64) : Nat) : Int), (0 : Int) ≤ (((n % 64) : Nat) : Int), (((setW S) (n / 64)).fdiv (2 ^ min (((n % 64) : Nat) : Int).toNat (IntKind.bits .u64))) = ((wordN (fun i => S (64 * (n / 64) + i)) 64 >>> (n % 64) : Nat) : Int), (bitsOf .and .u64 ((wordN (fun i => S (64 * (n / 64) + i)) 64 >>> (n % 64) : Nat) : Int) 1) = ((if S n then 1 else 0 : Nat) : Int)]) (E' := [(4, none, vbool (((if S n then 1 else 0 : Nat) : Int) == 1))]) (H' := [.box (.p ((eA (eK .u64) 1 2) (setW S)))]) [(1, vint .i64 (((n / 64) : Nat) : Int)), (5, vint .i64 (((n % 64) : Nat) : Int)), (6, vint .u64 ((wordN (fun i => S (64 * (n / 64) + i)) 64 >>> (n % 64) : Nat) : Int)), (7, vint .u64 ((if S n then 1 else 0 : Nat) : Int))] [] [4] (by kernel_rfl) ?_ ?_
  · refine al ?_ (al ?_ (al ?_ (al ?_ (al ?_ (al ?_ (al ?_ (al ?_ (al ?_ (al ?_ (trivial))))))))))
    · omega
    · exact quo_nat (n := n) (m := 64) (by omega)
    · omega
    · omega
    · omega
    · omega
    · exact rem_nat (n := n) (m := 64)
    · omega
    · exact shr_u64 (by omega)
    · exact has_bit S n
  refine tr_then ?_
  refine tr_pre (E' := [(4, none, vbool (((if S n then 1 else 0 : Nat) : Int) == 1))]) (H' := []) (fun A_ W_ hS => sl_weak (vc := []) [] [4] (by kernel_rfl) trivial hS) ?_
  refine tr_pre (E' := (4, none, vbool (S n)) :: [(4, none, vbool (((if S n then 1 else 0 : Nat) : Int) == 1))]) (H' := []) (fun A_ W_ hS => sl_set_imp (d := vbool (((if S n then 1 else 0 : Nat) : Int) == 1)) 4 (vbool (S n)) (by kernel_rfl) ?_ hS) ?_
  · refine imp_eq (congrArg (fun x => D.p (eB x)) (a₁ := (((if S n then 1 else 0 : Nat) : Int) == 1)) (a₂ := (S n)) ?_)
    cases S n <;> rfl
  refine tr_pre (E' := [(4, none, vbool (S n))]) (H' := []) (fun A_ W_ hS => sl_proj (ts := [4]) (by kernel_rfl) hS) ?_
  exact tr_return' (vc := []) (ds := [vbool (S n)]) (by kernel_rfl) trivial (by kernel_rfl) (fun _ _ h => h)
theorem setAdd_ok (S : Nat → Bool) (n : Nat) (h0 : n < 128) : Mut Try.prog 32 ((eA (eK .u64) 1 2) (setW S)) [.v (.int .i64 ((n : Nat) : Int))] ((eA (eK .u64) 1 2) (setW (upd S n true))) (.tup []) := by
  refine mut_of (fn := Try.f32) Try.func32 rfl rfl fun F_ W0_ b0_ => ?_
  refine tr_dt (vc := [(64 : Int) ≠ 0, (IntKind.wrap .i64 (((n : Nat) : Int).tdiv 64)) = (((n / 64) : Nat) : Int), (0 : Int) ≤ (((n / 64) : Nat) : Int), (((n / 64) : Nat) : Int) < (2 : Int), (n / 64) < 2, (64 : Int) ≠ 0, (((n : Nat) : Int).tmod 64) = (((n % 64) : Nat) : Int), (0 : Int) ≤ (((n % 64) : Nat) : Int), (IntKind.wrap .u64 ((1 : Int) * 2 ^ min (((n % 64) : Nat) : Int).toNat (IntKind.bits .u64))) = ((2 ^ (n % 64) : Nat) : Int), (bitsOf .or .u64 ((setW S) (n / 64)) ((2 ^ (n % 64) : Nat) : Int)) = (setW (upd S n true) (n / 64)), (0 : Int) ≤ (((n / 64) : Nat) : Int), (((n / 64) : Nat) : Int) < (2 : Int), (n / 64) < 2]) (E' := []) (H' := [.box (.p (.vec 1 2 (upd (fun i => (eK .u64) ((setW S) i)) (n / 64) (.v (.int .u64 (setW (upd S n true) (n / 64)))))))]) 12 [(2, vint .i64 (((n / 64) : Nat) : Int)), (7, vint .i64 (((n % 64) : Nat) : Int)), (8, vint .u64 ((2 ^ (n % 64) : Nat) : Int)), (9, vint .u64 (setW (upd S n true) (n / 64)))] [] [] (by kernel_rfl) (by kernel_rfl) (by kernel_rfl) ?_ ?_
  · refine al ?_ (al ?_ (al ?_ (al ?_ (al ?_ (al ?_ (al ?_ (al ?_ (al ?_ (al ?_ (al ?_ (al ?_ (al ?_ (trivial)))))))))))))
    · omega
    · exact quo_nat (n := n) (m := 64) (by omega)
    · omega
    · omega
    · omega
    · omega
    · exact rem_nat (n := n) (m := 64)
    · omega
    · exact shl_u64 (by omega)
    · exact add_bit S n
    · omega
    · omega
    · omega
  refine nm_pre (E' := []) (H' := [.box (.p ((eA (eK .u64) 1 2) (upd (setW S) (n / 64) (setW (upd S n true) (n / 64)))))]) (fun A_ W_ hS => sl_obj (o := .box (.p (.vec 1 2 (upd (fun i => (eK .u64) ((setW S) i)) (n / 64) (.v (.int .u64 (setW (upd S n true) (n / 64)))))))) 0 (.box (.p ((eA (eK .u64) 1 2) (upd (setW S) (n / 64) (setW (upd S n true) (n / 64)))))) (by kernel_rfl) (by exact congrArg (fun y => O.box (D.p y)) (vec_upd (e := (eK .u64)) (f := (setW S)) (k := (n / 64)) (x := (setW (upd S n true) (n / 64))))) hS) ?_
  refine nm_pre (E' := []) (H' := [.box (.p ((eA (eK .u64) 1 2) (upd (setW S) (n / 64) (setW (upd S n true) (n / 64)))))]) (fun A_ W_ hS => sl_weak (vc := []) [0] [] (by kernel_rfl) trivial hS) ?_
  refine nm_pre (E' := []) (H' := [.box (.p ((eA (eK .u64) 1 2) (setW (upd S n true))))]) (fun A_ W_ hS => sl_obj_imp (d := .p ((eA (eK .u64) 1 2) (upd (setW S) (n / 64) (setW (upd S n true) (n / 64))))) 0 (.p ((eA (eK .u64) 1 2) (setW (upd S n true)))) (by kernel_rfl) ?_ hS) ?_
  · refine impC_eq ?_
    rw [add_set]
  exact nm_endM (x1 := ((eA (eK .u64) 1 2) (setW (upd S n true)))) (by kernel_rfl)
end Go.Proofs.Ytjnjmnfacaakfaa
namespace Go.Proofs.Ytjnjmnfacaakfaa
open Go.Eng
structure Place where
  fSet : Int := 0
  fMore : Int := 0
  fEnd : Bool := false
deriving DecidableEq
def dPlace : Place := {}
def ePlace (x : Place) : PV := .agg [(eK .u64) x.fSet, (eK .u8) x.fMore, eB x.fEnd]
def cl (ps : List Place) (S : Nat → Bool) : Nat → Nat → Bool
  | 0 => S
  | i + 1 => if cl ps S i i = true ∧ (ps.getD i dPlace).fMore ≠ 0 then upd (cl ps S i) (i + 1) true else cl ps S i
def closedS (ps : List Place) (S : Nat → Bool) : Nat → Bool := cl ps S ps.length
theorem closed_ok (ps : List Place) (S : Nat → Bool) (h0 : ps.length < 127) : Pure Try.prog 33 [(eL ePlace 3 dPlace) ps, (eA (eK .u64) 1 2) (setW S)] (.p ((eA (eK .u64) 1 2) (setW (closedS ps S)))) := by
  refine pure_of (fn := Try.f33) Try.func33 rfl rfl fun F_ W0_ => ?_
  refine tr_seq ?_
  refine tr_r (vc := []) (E' := [(0, none, .p ((eL ePlace 3 dPlace) ps)), (3, none, .ref 0 []), (4, none, .ref 1 [])]) (H' := [.box (.p ((eA (eK .u64) 1 2) (setW S))), .box (.p ((eA (eK .u64) 1 2) (fun _ => 0)))]) [] [] [0, 3, 4] (by kernel_rfl) ?_ ?_
  · exact trivial
  refine tr_then (tr_seq ?_)
  refine tr_seq ?_
  refine tr_r (vc := []) (E' := [(3, none, .ref 0 []), (4, none, .ref 1 []), (7, none, .p ((eL ePlace 3 dPlace) ps)), (8, none, vint .i64 ((ps.length : Nat) : Int)), (9, none, vint .i64 0)]) (H' := [.box (.p ((eA (eK .u64) 1 2) (setW S))), .box (.p ((eA (eK .u64) 1 2) (fun _ => 0)))]) [] [] [3, 4, 7, 8, 9] (by kernel_rfl) ?_ ?_
  · exact trivial
  refine tr_then ?_
  refine tr_block ?_
  refine tr_loop (α := Nat) (fun z : Nat => (fun (i : Nat) => [(3, none, .ref 0 []), (4, none, .ref 1 []), (7, none, .p ((eL ePlace 3 dPlace) ps)), (8, none, vint .i64 ((ps.length : Nat) : Int)), (9, none, vint .i64 ((i : Nat) : Int))]) z) (fun z : Nat => (fun (i : Nat) => [.box (.p ((eA (eK .u64) 1 2) (setW (cl ps S i)))), .box (.p ((eA (eK .u64) 1 2) (fun _ => 0)))]) z) (fun z : Nat => (fun (i : Nat) => (i ≤ ps.length)) z) (fun z : Nat => (fun (i : Nat) => ps.length - i) z) 0 ?_ ?_ ?_
  · show (0 ≤ ps.length)
    · omega
  · intro A_ W_ hS
    replace hS := sl_set (d := vint .i64 0) 9 (vint .i64 ((0 : Nat) : Int)) (by kernel_rfl) (eqD_int (by omega)) hS
    replace hS := sl_obj_imp (d := .p ((eA (eK .u64) 1 2) (setW S))) 0 (.p ((eA (eK .u64) 1 2) (setW (cl ps S 0)))) (by kernel_rfl) (impC_eq (congrArg (fun x => D.p ((eA (eK .u64) 1 2) x)) (a₁ := (setW S)) (a₂ := (setW (cl ps S 0))) (by rfl))) hS
    exact sl_weak (vc := []) [0, 1] [3, 4, 7, 8, 9] (by kernel_rfl) trivial hS
  · intro z hz
    revert z; intro i hz
    have hz : (i ≤ ps.length) := hz
    have hi0_0 := hz
    refine tr_seq ?_
    refine tr_r (vc := []) (E' := [(3, none, .ref 0 []), (4, none, .ref 1 []), (7, none, .p ((eL ePlace 3 dPlace) ps)), (8, none, vint .i64 ((ps.length : Nat) : Int)), (9, none, vint .i64 ((i : Nat) : Int)), (10, none, vbool (decide (((i : Nat) : Int) < ((ps.length : Nat) : Int))))]) (H' := [.box (.p ((eA (eK .u64) 1 2) (setW (cl ps S i)))), .box (.p ((eA (eK .u64) 1 2) (fun _ => 0)))]) [] [] [3, 4, 7, 8, 9, 10] (by kernel_rfl) ?_ ?_
    · exact trivial
    refine tr_then (tr_seq ?_)
    refine tr_condP (decide (((i : Nat) : Int) < ((ps.length : Nat) : Int))) (((i : Nat) : Int) < ((ps.length : Nat) : Int)) (by simp) (by kernel_rfl) (fun hc1 => ?_) (fun hc1 => ?_)
    · skip
      refine tr_skip ?_
      refine tr_then (tr_seq ?_)
      refine tr_block ?_
      refine tr_seq ?_
      refine tr_r (vc := [(0 : Int) ≤ ((i : Nat) : Int), ((i : Nat) : Int) < (ps.length : Int)]) (E' := [(3, none, .ref 0 []), (4, none, .ref 1 []), (5, none, vint .i64 ((i : Nat) : Int)), (6, none, .ref 2 []), (7, none, .p ((eL ePlace 3 dPlace) ps)), (8, none, vint .i64 ((ps.length : Nat) : Int)), (9, none, vint .i64 ((i : Nat) : Int))]) (H' := [.box (.p ((eA (eK .u64) 1 2) (setW (cl ps S i)))), .box (.p ((eA (eK .u64) 1 2) (fun _ => 0))), .box (.p (ePlace (ps.getD i dPlace)))]) [] [] [3, 4, 5, 6, 7, 8, 9] (by kernel_rfl) ?_ ?_
      · refine al ?_ (al ?_ (trivial))
        · omega
        · omega
      refine tr_then (tr_seq ?_)
      refine tr_r (vc := [Pure Try.prog 34 [(eA (eK .u64) 1 2) (setW (cl ps S i)), .v (.int .i64 ((i : Nat) : Int))] (vbool ((cl ps S i) i)), ((cl ps S i) i) = true → ((cl ps S i) i) = true, ((cl ps S i) i) = true → ((cl ps S i) i) = true, ((cl ps S i) i) = true → ((cl ps S i) i) = true]) (E' := [(3, none, .ref 0 []), (4, none, .ref 1 []), (5, none, vint .i64 ((i : Nat) : Int)), (7, none, .p ((eL ePlace 3 dPlace) ps)), (8, none, vint .i64 ((ps.length : Nat) : Int)), (9, none, vint .i64 ((i : Nat) : Int)), (21, none, vbool (((cl ps S i) i) && (((ps.getD i dPlace).fMore) != 0)))]) (H' := [.box (.p ((eA (eK .u64) 1 2) (setW (cl ps S i)))), .box (.p ((eA (eK .u64) 1 2) (fun _ => 0))), .box (.p (ePlace (ps.getD i dPlace)))]) [] [(2, vbool ((cl ps S i) i))] [3, 4, 5, 7, 8, 9, 21] (by kernel_rfl) ?_ ?_
      · refine al ?_ (al ?_ (al ?_ (al ?_ (trivial))))
        · exact setHas_ok _ _ (by omega)
        · exact id
        · exact id
        · exact id
      refine tr_then ?_
      refine tr_condP (((cl ps S i) i) && (((ps.getD i dPlace).fMore) != 0)) ((((cl ps S i) i) = true) ∧ (((ps.getD i dPlace).fMore) ≠ 0)) (by simp) (by kernel_rfl) (fun hc2 => ?_) (fun hc2 => ?_)
      · skip
        refine tr_r (vc := [(IntKind.wrap .i64 (((i : Nat) : Int) + 1)) = (((i + 1) : Nat) : Int), Mut Try.prog 32 ((eA (eK .u64) 1 2) (setW (cl ps S i))) [.v (.int .i64 (((i + 1) : Nat) : Int))] ((eA (eK .u64) 1 2) (setW (upd (cl ps S i) (i + 1) true))) (.tup [])]) (E' := [(3, none, .ref 0 []), (4, none, .ref 1 []), (7, none, .p ((eL ePlace 3 dPlace) ps)), (8, none, vint .i64 ((ps.length : Nat) : Int)), (9, none, vint .i64 ((i : Nat) : Int))]) (H' := [.box (.p ((eA (eK .u64) 1 2) (setW (upd (cl ps S i) (i + 1) true)))), .box (.p ((eA (eK .u64) 1 2) (fun _ => 0))), .box (.p (ePlace (ps.getD i dPlace)))]) [(1, vint .i64 (((i + 1) : Nat) : Int))] [(2, .tup [.p ((eA (eK .u64) 1 2) (setW (upd (cl ps S i) (i + 1) true))), .tup []])] [3, 4, 7, 8, 9] (by kernel_rfl) ?_ ?_
        · refine al ?_ (al ?_ (trivial))
          · exact wr64 (by omega) (by omega) (by omega)
          · exact setAdd_ok _ _ (by omega)
        refine in_n ?_
        refine tr_then ?_
        refine tr_r (vc := [(IntKind.wrap .i64 (((i : Nat) : Int) + 1)) = (((i + 1) : Nat) : Int)]) (E' := [(3, none, .ref 0 []), (4, none, .ref 1 []), (7, none, .p ((eL ePlace 3 dPlace) ps)), (8, none, vint .i64 ((ps.length : Nat) : Int)), (9, none, vint .i64 (((i + 1) : Nat) : Int))]) (H' := [.box (.p ((eA (eK .u64) 1 2) (setW (upd (cl ps S i) (i + 1) true)))), .box (.p ((eA (eK .u64) 1 2) (fun _ => 0))), .box (.p (ePlace (ps.getD i dPlace)))]) [(0, vint .i64 (((i + 1) : Nat) : Int))] [] [3, 4, 7, 8, 9] (by kernel_rfl) ?_ ?_
        · refine al ?_ (trivial)
          · exact wr64 (by omega) (by omega) (by omega)
        refine lp_end (i + 1) ?_ ?_ ?_
        · show ((i + 1) ≤ ps.length)
          · omega
        · show ps.length - (i + 1) < ps.length - i
          omega
        · intro A_ W_ hS
          replace hS := sl_obj_imp (d := .p ((eA (eK .u64) 1 2) (setW (upd (cl ps S i) (i + 1) true)))) 0 (.p ((eA (eK .u64) 1 2) (setW (cl ps S (i + 1))))) (by kernel_rfl) (impC_eq (congrArg (fun x => D.p ((eA (eK .u64) 1 2) x)) (a₁ := (setW (upd (cl ps S i) (i + 1) true))) (a₂ := (setW (cl ps S (i + 1)))) (by first | (rw [cl, if_pos hc2]) | (rw [cl, if_neg hc2])))) hS
          exact sl_weak (vc := []) [0, 1] [3, 4, 7, 8, 9] (by kernel_rfl) trivial hS
      · skip
        refine tr_skip ?_
        refine in_n ?_
        refine tr_then ?_
        refine tr_r (vc := [(IntKind.wrap .i64 (((i : Nat) : Int) + 1)) = (((i + 1) : Nat) : Int)]) (E' := [(3, none, .ref 0 []), (4, none, .ref 1 []), (7, none, .p ((eL ePlace 3 dPlace) ps)), (8, none, vint .i64 ((ps.length : Nat) : Int)), (9, none, vint .i64 (((i + 1) : Nat) : Int))]) (H' := [.box (.p ((eA (eK .u64) 1 2) (setW (cl ps S i)))), .box (.p ((eA (eK .u64) 1 2) (fun _ => 0))), .box (.p (ePlace (ps.getD i dPlace)))]) [(0, vint .i64 (((i + 1) : Nat) : Int))] [] [3, 4, 7, 8, 9] (by kernel_rfl) ?_ ?_
        · refine al ?_ (trivial)
          · exact wr64 (by omega) (by omega) (by omega)
        refine lp_end (i + 1) ?_ ?_ ?_
        · show ((i + 1) ≤ ps.length)
          · omega
        · show ps.length - (i + 1) < ps.length - i
          omega
        · intro A_ W_ hS
          replace hS := sl_obj_imp (d := .p ((eA (eK .u64) 1 2) (setW (cl ps S i)))) 0 (.p ((eA (eK .u64) 1 2) (setW (cl ps S (i + 1))))) (by kernel_rfl) (impC_eq (congrArg (fun x => D.p ((eA (eK .u64) 1 2) x)) (a₁ := (setW (cl ps S i))) (a₂ := (setW (cl ps S (i + 1)))) (by first | (rw [cl, if_pos hc2]) | (rw [cl, if_neg hc2])))) hS
          exact sl_weak (vc := []) [0, 1] [3, 4, 7, 8, 9] (by kernel_rfl) trivial hS
    · skip
      refine tr_exit ?_
      refine th_e ?_
      refine th_e ?_
      refine in_hit ?_
      refine tr_then (tr_seq ?_)
      refine tr_r (vc := []) (E' := [(4, none, .ref 1 [])]) (H' := [.box (.p ((eA (eK .u64) 1 2) (setW (cl ps S i)))), .box (.p ((eA (eK .u64) 1 2) (setW (cl ps S i))))]) [] [] [4] (by kernel_rfl) ?_ ?_
      · exact trivial
      refine tr_then ?_
      refine tr_pre (E' := [(4, none, .ref 0 [])]) (H' := [.box (.p ((eA (eK .u64) 1 2) (setW (cl ps S i))))]) (fun A_ W_ hS => sl_weak (vc := []) [1] [4] (by kernel_rfl) trivial hS) ?_
      refine tr_pre (E' := [(4, none, .ref 0 [])]) (H' := [.box (.p ((eA (eK .u64) 1 2) (setW (closedS ps S))))]) (fun A_ W_ hS => sl_obj_imp (d := .p ((eA (eK .u64) 1 2) (setW (cl ps S i)))) 0 (.p ((eA (eK .u64) 1 2) (setW (closedS ps S)))) (by kernel_rfl) ?_ hS) ?_
      · refine impC_eq (congrArg (fun x => D.p ((eA (eK .u64) 1 2) x)) (a₁ := (setW (cl ps S i))) (a₂ := (setW (closedS ps S))) ?_)
        rw [closedS, show i = ps.length by omega]
      exact tr_return' (vc := []) (ds := [.p ((eA (eK .u64) 1 2) (setW (closedS ps S)))]) (by kernel_rfl) trivial (by kernel_rfl) (fun _ _ h => h)
def bitOf (x c : Int) : Bool := !(bitsOf .and .u64 (x.fdiv (2 ^ min c.toNat (IntKind.bits .u64))) 1 == 0)
def sp (ps : List Place) (S : Nat → Bool) (c : Int) : Nat → Nat → Bool
  | 0 => fun _ => false
  | i + 1 => if S i = true ∧ bitOf (ps.getD i dPlace).fSet c = true then (if (ps.getD i dPlace).fMore = 42 then upd (sp ps S c i) i true else upd (sp ps S c i) (i + 1) true) else sp ps S c i
def stepS (ps : List Place) (S : Nat → Bool) (c : Int) : Nat → Bool := closedS ps (sp ps S c ps.length)
theorem skip_of {b : Bool} {x c : Int} (h : b = false ∨ bitsOf .and .u64 (x.fdiv (2 ^ min c.toNat (IntKind.bits .u64))) 1 = 0) : ¬ (b = true ∧ bitOf x c = true) := by
  rintro ⟨h1, h2⟩
  rcases h with h | h
  · rw [h] at h1; cases h1
  · unfold bitOf at h2; rw [h] at h2; simp at h2
theorem go_of {b : Bool} {x c : Int} (h : ¬ (b = false ∨ bitsOf .and .u64 (x.fdiv (2 ^ min c.toNat (IntKind.bits .u64))) 1 = 0)) : b = true ∧ bitOf x c = true := by
  rw [not_or] at h
  refine ⟨by cases b <;> simp_all, ?_⟩
  unfold bitOf
  simp [h.2]
theorem setW_empty : (fun _ => (0 : Int)) = setW (fun _ => false) := by
  funext k
  rfl
theorem step_ok (ps : List Place) (S : Nat → Bool) (c : Int) (h0 : ps.length < 127) (h1 : 0 ≤ c) : Pure Try.prog 35 [(eL ePlace 3 dPlace) ps, (eA (eK .u64) 1 2) (setW S), .v (.int .i64 c)] (.p ((eA (eK .u64) 1 2) (setW (stepS ps S c)))) := by
  refine pure_of (fn := Try.f35) Try.func35 rfl rfl fun F_ W0_ => ?_
  refine tr_seq ?_
  refine tr_r (vc := []) (E' := [(0, none, .p ((eL ePlace 3 dPlace) ps)), (2, none, vint .i64 c), (4, none, .ref 0 []), (6, none, .ref 1 [])]) (H' := [.box (.p ((eA (eK .u64) 1 2) (setW S))), .box (.p ((eA (eK .u64) 1 2) (fun _ => 0)))]) [] [] [0, 2, 4, 6] (by kernel_rfl) ?_ ?_
  · exact trivial
  refine tr_then (tr_seq ?_)
  refine tr_r (vc := []) (E' := [(0, none, .p ((eL ePlace 3 dPlace) ps)), (2, none, vint .i64 c), (4, none, .ref 0 []), (6, none, .ref 1 []), (7, none, .ref 2 [])]) (H' := [.box (.p ((eA (eK .u64) 1 2) (setW S))), .box (.p ((eA (eK .u64) 1 2) (fun _ => 0))), .box (.p ((eA (eK .u64) 1 2) (fun _ => 0)))]) [] [] [0, 2, 4, 6, 7] (by kernel_rfl) ?_ ?_
  · exact trivial
  refine tr_then (tr_seq ?_)
  refine tr_seq ?_
  refine tr_r (vc := []) (E' := [(0, none, .p ((eL ePlace 3 dPlace) ps)), (2, none, vint .i64 c), (4, none, .ref 0 []), (6, none, .ref 1 []), (7, none, .ref 2 []), (10, none, .p ((eL ePlace 3 dPlace) ps)), (11, none, vint .i64 ((ps.length : Nat) : Int)), (12, none, vint .i64 0)]) (H' := [.box (.p ((eA (eK .u64) 1 2) (setW S))), .box (.p ((eA (eK .u64) 1 2) (fun _ => 0))), .box (.p ((eA (eK .u64) 1 2) (fun _ => 0)))]) [] [] [0, 2, 4, 6, 7, 10, 11, 12] (by kernel_rfl) ?_ ?_
  · exact trivial
  refine tr_then ?_
  refine tr_block ?_
  refine tr_loop (α := Nat) (fun z : Nat => (fun (i : Nat) => [(0, none, .p ((eL ePlace 3 dPlace) ps)), (2, none, vint .i64 c), (4, none, .ref 0 []), (6, none, .ref 1 []), (7, none, .ref 2 []), (10, none, .p ((eL ePlace 3 dPlace) ps)), (11, none, vint .i64 ((ps.length : Nat) : Int)), (12, none, vint .i64 ((i : Nat) : Int))]) z) (fun z : Nat => (fun (i : Nat) => [.box (.p ((eA (eK .u64) 1 2) (setW S))), .box (.p ((eA (eK .u64) 1 2) (fun _ => 0))), .box (.p ((eA (eK .u64) 1 2) (setW (sp ps S c i))))]) z) (fun z : Nat => (fun (i : Nat) => (i ≤ ps.length)) z) (fun z : Nat => (fun (i : Nat) => ps.length - i) z) 0 ?_ ?_ ?_
  · show (0 ≤ ps.length)
    · omega
  · intro A_ W_ hS
    replace hS := sl_set (d := vint .i64 0) 12 (vint .i64 ((0 : Nat) : Int)) (by kernel_rfl) (eqD_int (by omega)) hS
    replace hS := sl_obj_imp (d := .p ((eA (eK .u64) 1 2) (fun _ => 0))) 2 (.p ((eA (eK .u64) 1 2) (setW (sp ps S c 0)))) (by kernel_rfl) (impC_eq (congrArg (fun x => D.p ((eA (eK .u64) 1 2) x)) (a₁ := (fun _ => 0)) (a₂ := (setW (sp ps S c 0))) (by exact setW_empty))) hS
    exact sl_weak (vc := []) [0, 1, 2] [0, 2, 4, 6, 7, 10, 11, 12] (by kernel_rfl) trivial hS
  · intro z hz
    revert z; intro i hz
    have hz : (i ≤ ps.length) := hz
    have hi0_0 := hz
    refine tr_seq ?_
    refine tr_r (vc := []) (E' := [(0, none, .p ((eL ePlace 3 dPlace) ps)), (2, none, vint .i64 c), (4, none, .ref 0 []), (6, none, .ref 1 []), (7, none, .ref 2 []), (10, none, .p ((eL ePlace 3 dPlace) ps)), (11, none, vint .i64 ((ps.length : Nat) : Int)), (12, none, vint .i64 ((i : Nat) : Int)), (13, none, vbool (decide (((i : Nat) : Int) < ((ps.length : Nat) : Int))))]) (H' := [.box (.p ((eA (eK .u64) 1 2) (setW S))), .box (.p ((eA (eK .u64) 1 2) (fun _ => 0))), .box (.p ((eA (eK .u64) 1 2) (setW (sp ps S c i))))]) [] [] [0, 2, 4, 6, 7, 10, 11, 12, 13] (by kernel_rfl) ?_ ?_
    · exact trivial
    refine tr_then (tr_seq ?_)
    refine tr_condP (decide (((i : Nat) : Int) < ((ps.length : Nat) : Int))) (((i : Nat) : Int) < ((ps.length : Nat) : Int)) (by simp) (by kernel_rfl) (fun hc1 => ?_) (fun hc1 => ?_)
    · skip
      refine tr_skip ?_
      refine tr_then (tr_seq ?_)
      refine tr_block ?_
      refine tr_seq ?_
      refine tr_r (vc := [(0 : Int) ≤ ((i : Nat) : Int), ((i : Nat) : Int) < (ps.length : Int)]) (E' := [(0, none, .p ((eL ePlace 3 dPlace) ps)), (2, none, vint .i64 c), (4, none, .ref 0 []), (6, none, .ref 1 []), (7, none, .ref 2 []), (8, none, vint .i64 ((i : Nat) : Int)), (9, none, .ref 3 []), (10, none, .p ((eL ePlace 3 dPlace) ps)), (11, none, vint .i64 ((ps.length : Nat) : Int)), (12, none, vint .i64 ((i : Nat) : Int))]) (H' := [.box (.p ((eA (eK .u64) 1 2) (setW S))), .box (.p ((eA (eK .u64) 1 2) (fun _ => 0))), .box (.p ((eA (eK .u64) 1 2) (setW (sp ps S c i)))), .box (.p (ePlace (ps.getD i dPlace)))]) [] [] [0, 2, 4, 6, 7, 8, 9, 10, 11, 12] (by kernel_rfl) ?_ ?_
      · refine al ?_ (al ?_ (trivial))
        · omega
        · omega
      refine tr_then (tr_seq ?_)
      refine tr_seq ?_
      refine tr_r (vc := [Pure Try.prog 34 [(eA (eK .u64) 1 2) (setW S), .v (.int .i64 ((i : Nat) : Int))] (vbool (S i)), (!(!(S i))) = true → (!(!(S i))) = true, (!(!(S i))) = true → (!(!(S i))) = true, (!(!(S i))) = true → (!(!(S i))) = true, (!(!(S i))) = true → ((0 : Int) ≤ c), (!(!(S i))) = true → (!(!(S i))) = true, (!(!(S i))) = true → (!(!(S i))) = true, (!(!(S i))) = true → (!(!(S i))) = true]) (E' := [(0, none, .p ((eL ePlace 3 dPlace) ps)), (2, none, vint .i64 c), (4, none, .ref 0 []), (6, none, .ref 1 []), (7, none, .ref 2 []), (8, none, vint .i64 ((i : Nat) : Int)), (9, none, .ref 3 []), (10, none, .p ((eL ePlace 3 dPlace) ps)), (11, none, vint .i64 ((ps.length : Nat) : Int)), (12, none, vint .i64 ((i : Nat) : Int)), (28, none, vbool ((!(S i)) || ((bitsOf .and .u64 (((ps.getD i dPlace).fSet).fdiv (2 ^ min c.toNat (IntKind.bits .u64))) 1) == 0)))]) (H' := [.box (.p ((eA (eK .u64) 1 2) (setW S))), .box (.p ((eA (eK .u64) 1 2) (fun _ => 0))), .box (.p ((eA (eK .u64) 1 2) (setW (sp ps S c i)))), .box (.p (ePlace (ps.getD i dPlace)))]) [] [(2, vbool (S i))] [0, 2, 4, 6, 7, 8, 9, 10, 11, 12, 28] (by kernel_rfl) ?_ ?_
      · refine al ?_ (al ?_ (al ?_ (al ?_ (al ?_ (al ?_ (al ?_ (al ?_ (trivial))))))))
        · exact setHas_ok _ _ (by omega)
        · exact id
        · exact id
        · exact id
        · omega
        · exact id
        · exact id
        · exact id
      refine tr_then ?_
      refine tr_condP ((!(S i)) || ((bitsOf .and .u64 (((ps.getD i dPlace).fSet).fdiv (2 ^ min c.toNat (IntKind.bits .u64))) 1) == 0)) (((S i) = false) ∨ ((bitsOf .and .u64 (((ps.getD i dPlace).fSet).fdiv (2 ^ min c.toNat (IntKind.bits .u64))) 1) = 0)) (by simp) (by kernel_rfl) (fun hc2 => ?_) (fun hc2 => ?_)
      · skip
        refine tr_exit ?_
        refine th_e ?_
        refine in_hit ?_
        refine tr_then ?_
        refine tr_r (vc := [(IntKind.wrap .i64 (((i : Nat) : Int) + 1)) = (((i + 1) : Nat) : Int)]) (E' := [(0, none, .p ((eL ePlace 3 dPlace) ps)), (2, none, vint .i64 c), (4, none, .ref 0 []), (6, none, .ref 1 []), (7, none, .ref 2 []), (10, none, .p ((eL ePlace 3 dPlace) ps)), (11, none, vint .i64 ((ps.length : Nat) : Int)), (12, none, vint .i64 (((i + 1) : Nat) : Int))]) (H' := [.box (.p ((eA (eK .u64) 1 2) (setW S))), .box (.p ((eA (eK .u64) 1 2) (fun _ => 0))), .box (.p ((eA (eK .u64) 1 2) (setW (sp ps S c i)))), .box (.p (ePlace (ps.getD i dPlace)))]) [(0, vint .i64 (((i + 1) : Nat) : Int))] [] [0, 2, 4, 6, 7, 10, 11, 12] (by kernel_rfl) ?_ ?_
        · refine al ?_ (trivial)
          · exact wr64 (by omega) (by omega) (by omega)
        refine lp_end (i + 1) ?_ ?_ ?_
        · show ((i + 1) ≤ ps.length)
          · omega
        · show ps.length - (i + 1) < ps.length - i
          omega
        · intro A_ W_ hS
          replace hS := sl_obj_imp (d := .p ((eA (eK .u64) 1 2) (setW (sp ps S c i)))) 2 (.p ((eA (eK .u64) 1 2) (setW (sp ps S c (i + 1))))) (by kernel_rfl) (impC_eq (congrArg (fun x => D.p ((eA (eK .u64) 1 2) x)) (a₁ := (setW (sp ps S c i))) (a₂ := (setW (sp ps S c (i + 1)))) (by first | (rw [sp, if_neg (skip_of hc2)]) | (rw [sp, if_pos (go_of hc2), if_pos hc3]) | (rw [sp, if_pos (go_of hc2), if_neg hc3])))) hS
          exact sl_weak (vc := []) [0, 1, 2] [0, 2, 4, 6, 7, 10, 11, 12] (by kernel_rfl) trivial hS
      · skip
        refine tr_skip ?_
        refine tr_then (tr_seq ?_)
        refine tr_r (vc := []) (E' := [(0, none, .p ((eL ePlace 3 dPlace) ps)), (2, none, vint .i64 c), (4, none, .ref 0 []), (6, none, .ref 1 []), (7, none, .ref 2 []), (8, none, vint .i64 ((i : Nat) : Int)), (10, none, .p ((eL ePlace 3 dPlace) ps)), (11, none, vint .i64 ((ps.length : Nat) : Int)), (12, none, vint .i64 ((i : Nat) : Int)), (31, none, vbool (((ps.getD i dPlace).fMore) == 42))]) (H' := [.box (.p ((eA (eK .u64) 1 2) (setW S))), .box (.p ((eA (eK .u64) 1 2) (fun _ => 0))), .box (.p ((eA (eK .u64) 1 2) (setW (sp ps S c i)))), .box (.p (ePlace (ps.getD i dPlace)))]) [] [] [0, 2, 4, 6, 7, 8, 10, 11, 12, 31] (by kernel_rfl) ?_ ?_
        · exact trivial
        refine tr_then ?_
        refine tr_condP (((ps.getD i dPlace).fMore) == 42) (((ps.getD i dPlace).fMore) = 42) (by simp) (by kernel_rfl) (fun hc3 => ?_) (fun hc3 => ?_)
        · skip
          refine tr_r (vc := [Mut Try.prog 32 ((eA (eK .u64) 1 2) (setW (sp ps S c i))) [.v (.int .i64 ((i : Nat) : Int))] ((eA (eK .u64) 1 2) (setW (upd (sp ps S c i) i true))) (.tup [])]) (E' := [(0, none, .p ((eL ePlace 3 dPlace) ps)), (2, none, vint .i64 c), (4, none, .ref 0 []), (6, none, .ref 1 []), (7, none, .ref 2 []), (10, none, .p ((eL ePlace 3 dPlace) ps)), (11, none, vint .i64 ((ps.length : Nat) : Int)), (12, none, vint .i64 ((i : Nat) : Int))]) (H' := [.box (.p ((eA (eK .u64) 1 2) (setW S))), .box (.p ((eA (eK .u64) 1 2) (fun _ => 0))), .box (.p ((eA (eK .u64) 1 2) (setW (upd (sp ps S c i) i true)))), .box (.p (ePlace (ps.getD i dPlace)))]) [] [(1, .tup [.p ((eA (eK .u64) 1 2) (setW (upd (sp ps S c i) i true))), .tup []])] [0, 2, 4, 6, 7, 10, 11, 12] (by kernel_rfl) ?_ ?_
          · refine al ?_ (trivial)
            · exact setAdd_ok _ _ (by omega)
          refine in_n ?_
          refine tr_then ?_
          refine tr_r (vc := [(IntKind.wrap .i64 (((i : Nat) : Int) + 1)) = (((i + 1) : Nat) : Int)]) (E' := [(0, none, .p ((eL ePlace 3 dPlace) ps)), (2, none, vint .i64 c), (4, none, .ref 0 []), (6, none, .ref 1 []), (7, none, .ref 2 []), (10, none, .p ((eL ePlace 3 dPlace) ps)), (11, none, vint .i64 ((ps.length : Nat) : Int)), (12, none, vint .i64 (((i + 1) : Nat) : Int))]) (H' := [.box (.p ((eA (eK .u64) 1 2) (setW S))), .box (.p ((eA (eK .u64) 1 2) (fun _ => 0))), .box (.p ((eA (eK .u64) 1 2) (setW (upd (sp ps S c i) i true)))), .box (.p (ePlace (ps.getD i dPlace)))]) [(0, vint .i64 (((i + 1) : Nat) : Int))] [] [0, 2, 4, 6, 7, 10, 11, 12] (by kernel_rfl) ?_ ?_
          · refine al ?_ (trivial)
            · exact wr64 (by omega) (by omega) (by omega)
          refine lp_end (i + 1) ?_ ?_ ?_
          · show ((i + 1) ≤ ps.length)
            · omega
          · show ps.length - (i + 1) < ps.length - i
            omega
          · intro A_ W_ hS
            replace hS := sl_obj_imp (d := .p ((eA (eK .u64) 1 2) (setW (upd (sp ps S c i) i true)))) 2 (.p ((eA (eK .u64) 1 2) (setW (sp ps S c (i + 1))))) (by kernel_rfl) (impC_eq (congrArg (fun x => D.p ((eA (eK .u64) 1 2) x)) (a₁ := (setW (upd (sp ps S c i) i true))) (a₂ := (setW (sp ps S c (i + 1)))) (by first | (rw [sp, if_neg (skip_of hc2)]) | (rw [sp, if_pos (go_of hc2), if_pos hc3]) | (rw [sp, if_pos (go_of hc2), if_neg hc3])))) hS
            exact sl_weak (vc := []) [0, 1, 2] [0, 2, 4, 6, 7, 10, 11, 12] (by kernel_rfl) trivial hS
        · skip
          refine tr_r (vc := [(IntKind.wrap .i64 (((i : Nat) : Int) + 1)) = (((i + 1) : Nat) : Int), Mut Try.prog 32 ((eA (eK .u64) 1 2) (setW (sp ps S c i))) [.v (.int .i64 (((i + 1) : Nat) : Int))] ((eA (eK .u64) 1 2) (setW (upd (sp ps S c i) (i + 1) true))) (.tup [])]) (E' := [(0, none, .p ((eL ePlace 3 dPlace) ps)), (2, none, vint .i64 c), (4, none, .ref 0 []), (6, none, .ref 1 []), (7, none, .ref 2 []), (10, none, .p ((eL ePlace 3 dPlace) ps)), (11, none, vint .i64 ((ps.length : Nat) : Int)), (12, none, vint .i64 ((i : Nat) : Int))]) (H' := [.box (.p ((eA (eK .u64) 1 2) (setW S))), .box (.p ((eA (eK .u64) 1 2) (fun _ => 0))), .box (.p ((eA (eK .u64) 1 2) (setW (upd (sp ps S c i) (i + 1) true)))), .box (.p (ePlace (ps.getD i dPlace)))]) [(1, vint .i64 (((i + 1) : Nat) : Int))] [(2, .tup [.p ((eA (eK .u64) 1 2) (setW (upd (sp ps S c i) (i + 1) true))), .tup []])] [0, 2, 4, 6, 7, 10, 11, 12] (by kernel_rfl) ?_ ?_
          · refine al ?_ (al ?_ (trivial))
            · exact wr64 (by omega) (by omega) (by omega)
            · exact setAdd_ok _ _ (by omega)
          refine in_n ?_
          refine tr_then ?_
          refine tr_r (vc := [(IntKind.wrap .i64 (((i : Nat) : Int) + 1)) = (((i + 1) : Nat) : Int)]) (E' := [(0, none, .p ((eL ePlace 3 dPlace) ps)), (2, none, vint .i64 c), (4, none, .ref 0 []), (6, none, .ref 1 []), (7, none, .ref 2 []), (10, none, .p ((eL ePlace 3 dPlace) ps)), (11, none, vint .i64 ((ps.length : Nat) : Int)), (12, none, vint .i64 (((i + 1) : Nat) : Int))]) (H' := [.box (.p ((eA (eK .u64) 1 2) (setW S))), .box (.p ((eA (eK .u64) 1 2) (fun _ => 0))), .box (.p ((eA (eK .u64) 1 2) (setW (upd (sp ps S c i) (i + 1) true)))), .box (.p (ePlace (ps.getD i dPlace)))]) [(0, vint .i64 (((i + 1) : Nat) : Int))] [] [0, 2, 4, 6, 7, 10, 11, 12] (by kernel_rfl) ?_ ?_
          · refine al ?_ (trivial)
            · exact wr64 (by omega) (by omega) (by omega)
          refine lp_end (i + 1) ?_ ?_ ?_
          · show ((i + 1) ≤ ps.length)
            · omega
          · show ps.length - (i + 1) < ps.length - i
            omega
          · intro A_ W_ hS
            replace hS := sl_obj_imp (d := .p ((eA (eK .u64) 1 2) (setW (upd (sp ps S c i) (i + 1) true)))) 2 (.p ((eA (eK .u64) 1 2) (setW (sp ps S c (i + 1))))) (by kernel_rfl) (impC_eq (congrArg (fun x => D.p ((eA (eK .u64) 1 2) x)) (a₁ := (setW (upd (sp ps S c i) (i + 1) true))) (a₂ := (setW (sp ps S c (i + 1)))) (by first | (rw [sp, if_neg (skip_of hc2)]) | (rw [sp, if_pos (go_of hc2), if_pos hc3]) | (rw [sp, if_pos (go_of hc2), if_neg hc3])))) hS
            exact sl_weak (vc := []) [0, 1, 2] [0, 2, 4, 6, 7, 10, 11, 12] (by kernel_rfl) trivial hS
    · skip
      refine tr_exit ?_
      refine th_e ?_
      refine th_e ?_
      refine in_hit ?_
      refine tr_then (tr_seq ?_)
      refine tr_r (vc := [Pure Try.prog 33 [(eL ePlace 3 dPlace) ps, (eA (eK .u64) 1 2) (setW (sp ps S c i))] (.p ((eA (eK .u64) 1 2) (setW (closedS ps (sp ps S c i)))))]) (E' := [(6, none, .ref 1 [])]) (H' := [.box (.p ((eA (eK .u64) 1 2) (setW S))), .box (.p ((eA (eK .u64) 1 2) (setW (closedS ps (sp ps S c i))))), .box (.p ((eA (eK .u64) 1 2) (setW (sp ps S c i))))]) [] [(2, .p ((eA (eK .u64) 1 2) (setW (closedS ps (sp ps S c i)))))] [6] (by kernel_rfl) ?_ ?_
      · refine al ?_ (trivial)
        · exact closed_ok _ _ (by omega)
      refine tr_then ?_
      refine tr_pre (E' := [(6, none, .ref 0 [])]) (H' := [.box (.p ((eA (eK .u64) 1 2) (setW (closedS ps (sp ps S c i)))))]) (fun A_ W_ hS => sl_weak (vc := []) [1] [6] (by kernel_rfl) trivial hS) ?_
      refine tr_pre (E' := [(6, none, .ref 0 [])]) (H' := [.box (.p ((eA (eK .u64) 1 2) (setW (stepS ps S c))))]) (fun A_ W_ hS => sl_obj_imp (d := .p ((eA (eK .u64) 1 2) (setW (closedS ps (sp ps S c i))))) 0 (.p ((eA (eK .u64) 1 2) (setW (stepS ps S c)))) (by kernel_rfl) ?_ hS) ?_
      · refine impC_eq (congrArg (fun x => D.p ((eA (eK .u64) 1 2) x)) (a₁ := (setW (closedS ps (sp ps S c i)))) (a₂ := (setW (stepS ps S c))) ?_)
        rw [stepS, show i = ps.length by omega]
      exact tr_return' (vc := []) (ds := [.p ((eA (eK .u64) 1 2) (setW (stepS ps S c)))]) (by kernel_rfl) trivial (by kernel_rfl) (fun _ _ h => h)
end Go.Proofs.Ytjnjmnfacaakfaa
namespace Go.Proofs.Ytjnjmnfacaakfaa
open Go.Eng
def hasPre (s p : List UInt8) : Bool := decide (p.length ≤ s.length) && (s.take p.length == p)
theorem sHasPrefix_ok (s : List UInt8) (p : List UInt8) : Pure Try.prog 61 [.s s, .s p] (vbool (hasPre s p)) := by
  refine pure_of (fn := Try.f61) Try.func61 rfl rfl fun F_ W0_ => ?_
  refine tr_seq ?_
  refine tr_r (vc := []) (E' := [(0, none, vstr s), (1, none, vstr p)]) (H' := []) [] [] [0, 1] (by kernel_rfl) ?_ ?_
  · exact trivial
  refine tr_then (tr_seq ?_)
  refine tr_r (vc := [(decide (((p.length : Nat) : Int) ≤ ((s.length : Nat) : Int))) = true → (decide (((p.length : Nat) : Int) ≤ ((s.length : Nat) : Int))) = true, (decide (((p.length : Nat) : Int) ≤ ((s.length : Nat) : Int))) = true → (decide (((p.length : Nat) : Int) ≤ ((s.length : Nat) : Int))) = true, (decide (((p.length : Nat) : Int) ≤ ((s.length : Nat) : Int))) = true → (decide (((p.length : Nat) : Int) ≤ ((s.length : Nat) : Int))) = true, (decide (((p.length : Nat) : Int) ≤ ((s.length : Nat) : Int))) = true → ((0 : Int) ≤ 0), (decide (((p.length : Nat) : Int) ≤ ((s.length : Nat) : Int))) = true → (0 ≤ ((p.length : Nat) : Int)), (decide (((p.length : Nat) : Int) ≤ ((s.length : Nat) : Int))) = true → (((p.length : Nat) : Int) ≤ (s.length : Int)), (decide (((p.length : Nat) : Int) ≤ ((s.length : Nat) : Int))) = true → (((s.drop 0).take (p.length - 0)) = (s.take p.length)), (decide (((p.length : Nat) : Int) ≤ ((s.length : Nat) : Int))) = true → (decide (((p.length : Nat) : Int) ≤ ((s.length : Nat) : Int))) = true, (decide (((p.length : Nat) : Int) ≤ ((s.length : Nat) : Int))) = true → (decide (((p.length : Nat) : Int) ≤ ((s.length : Nat) : Int))) = true, (decide (((p.length : Nat) : Int) ≤ ((s.length : Nat) : Int))) = true → (decide (((p.length : Nat) : Int) ≤ ((s.length : Nat) : Int))) = true]) (E' := [(4, none, vbool ((decide (((p.length : Nat) : Int) ≤ ((s.length : Nat) : Int))) && ((s.take p.length) == p)))]) (H' := []) [(9, vstr (s.take p.length))] [] [4] (by kernel_rfl) ?_ ?_
  · refine al ?_ (al ?_ (al ?_ (al ?_ (al ?_ (al ?_ (al ?_ (al ?_ (al ?_ (al ?_ (trivial))))))))))
    · exact id
    · exact id
    · exact id
    · omega
    · omega
    · (intro hg; simp at hg; omega)
    · intro _; rfl
    · exact id
    · exact id
    · exact id
  refine tr_then ?_
  refine tr_pre (E' := (4, none, vbool (hasPre s p)) :: [(4, none, vbool ((decide (((p.length : Nat) : Int) ≤ ((s.length : Nat) : Int))) && ((s.take p.length) == p)))]) (H' := []) (fun A_ W_ hS => sl_set_imp (d := vbool ((decide (((p.length : Nat) : Int) ≤ ((s.length : Nat) : Int))) && ((s.take p.length) == p))) 4 (vbool (hasPre s p)) (by kernel_rfl) ?_ hS) ?_
  · refine imp_eq (congrArg (fun x => D.p (eB x)) (a₁ := ((decide (((p.length : Nat) : Int) ≤ ((s.length : Nat) : Int))) && ((s.take p.length) == p))) (a₂ := (hasPre s p)) ?_)
    unfold hasPre; simp
  refine tr_pre (E' := [(4, none, vbool (hasPre s p))]) (H' := []) (fun A_ W_ hS => sl_proj (ts := [4]) (by kernel_rfl) hS) ?_
  exact tr_return' (vc := []) (ds := [vbool (hasPre s p)]) (by kernel_rfl) trivial (by kernel_rfl) (fun _ _ h => h)
theorem hasPrefix_ok (s : List UInt8) (p : List UInt8) : Pure Try.prog 58 [.s s, .s p] (vbool (hasPre s p)) := by
  refine pure_of (fn := Try.f58) Try.func58 rfl rfl fun F_ W0_ => ?_
  refine tr_seq ?_
  refine tr_r (vc := []) (E' := [(0, none, vstr s), (1, none, vstr p)]) (H' := []) [] [] [0, 1] (by kernel_rfl) ?_ ?_
  · exact trivial
  refine tr_then (tr_seq ?_)
  refine tr_r (vc := [Pure Try.prog 61 [.s s, .s p] (vbool (hasPre s p))]) (E' := [(4, none, vbool (hasPre s p))]) (H' := []) [] [(2, vbool (hasPre s p))] [4] (by kernel_rfl) ?_ ?_
  · refine al ?_ (trivial)
    · exact sHasPrefix_ok _ _
  refine tr_then ?_
  exact tr_return' (vc := []) (ds := [vbool (hasPre s p)]) (by kernel_rfl) trivial (by kernel_rfl) (fun _ _ h => h)
end Go.Proofs.Ytjnjmnfacaakfaa
namespace Go.Proofs.Ytjnjmnfacaakfaa
open Go.Eng
theorem sIndex1_ok (s : List UInt8) (c : UInt8) : Pure Try.prog 62 [.s s, .s ([c])] (vint .i64 (Lib.indexByte s c)) := by
  refine pure_of (fn := Try.f62) Try.func62 rfl rfl fun F_ W0_ => ?_
  refine tr_seq ?_
  refine tr_r (vc := []) (E' := [(0, none, vstr s), (1, none, vstr ([c]))]) (H' := []) [] [] [0, 1] (by kernel_rfl) ?_ ?_
  · exact trivial
  refine tr_then (tr_seq ?_)
  refine tr_r (vc := []) (E' := [(0, none, vstr s), (1, none, vstr ([c])), (5, none, vint .i64 ((([c]).length : Nat) : Int))]) (H' := []) [] [] [0, 1, 5] (by kernel_rfl) ?_ ?_
  · exact trivial
  refine tr_then (tr_seq ?_)
  refine tr_block ?_
  refine tr_seq ?_
  refine tr_r (vc := [(!(((([c]).length : Nat) : Int) == 0)) = true → (!(((([c]).length : Nat) : Int) == 0)) = true, (!(((([c]).length : Nat) : Int) == 0)) = true → (!(((([c]).length : Nat) : Int) == 0)) = true, (!(((([c]).length : Nat) : Int) == 0)) = true → (!(((([c]).length : Nat) : Int) == 0)) = true]) (E' := [(0, none, vstr s), (1, none, vstr ([c])), (5, none, vint .i64 ((([c]).length : Nat) : Int)), (16, none, vbool ((((([c]).length : Nat) : Int) == 0) || (([c]) == s)))]) (H' := []) [] [] [0, 1, 5, 16] (by kernel_rfl) ?_ ?_
  · refine al ?_ (al ?_ (al ?_ (trivial)))
    · exact id
    · exact id
    · exact id
  refine tr_then ?_
  refine tr_condP ((((([c]).length : Nat) : Int) == 0) || (([c]) == s)) ((((([c]).length : Nat) : Int) = 0) ∨ (([c]) = s)) (by simp) (by kernel_rfl) (fun hc1 => ?_) (fun hc1 => ?_)
  · skip
    refine tr_seq ?_
    refine tr_r (vc := []) (E' := [(4, none, vint .i64 0)]) (H' := []) [] [] [4] (by kernel_rfl) ?_ ?_
    · exact trivial
    refine tr_then ?_
    refine tr_pre (E' := (4, none, vint .i64 (Lib.indexByte s c)) :: [(4, none, vint .i64 0)]) (H' := []) (fun A_ W_ hS => sl_set_imp (d := vint .i64 0) 4 (vint .i64 (Lib.indexByte s c)) (by kernel_rfl) ?_ hS) ?_
    · refine imp_eq (congrArg (fun x => D.p (eI x)) (a₁ := 0) (a₂ := (Lib.indexByte s c)) ?_)
      rcases hc1 with h | h; (simp at h); (subst h; simp [Lib.indexByte])
    refine tr_pre (E' := [(4, none, vint .i64 (Lib.indexByte s c))]) (H' := []) (fun A_ W_ hS => sl_proj (ts := [4]) (by kernel_rfl) hS) ?_
    exact tr_return' (vc := []) (ds := [vint .i64 (Lib.indexByte s c)]) (by kernel_rfl) trivial (by kernel_rfl) (fun _ _ h => h)
  · skip
    refine tr_seq ?_
    refine tr_r (vc := []) (E' := [(0, none, vstr s), (1, none, vstr ([c])), (5, none, vint .i64 ((([c]).length : Nat) : Int)), (24, none, vbool (((([c]).length : Nat) : Int) == 1))]) (H' := []) [] [] [0, 1, 5, 24] (by kernel_rfl) ?_ ?_
    · exact trivial
    refine tr_then ?_
    refine tr_condP (((([c]).length : Nat) : Int) == 1) (((([c]).length : Nat) : Int) = 1) (by simp) (by kernel_rfl) (fun hc2 => ?_) (fun hc2 => ?_)
    · skip
      refine tr_seq ?_
      refine tr_r (vc := [(0 : Int) ≤ 0, 0 < (([c]).length : Int), Pure Try.prog 56 [.s s, .v (.int .u8 ((([c]).getD 0 0).toNat : Int))] (vint .i64 (Lib.indexByte s ((([c]).getD 0 0).toNat : Int).toNat.toUInt8))]) (E' := [(4, none, vint .i64 (Lib.indexByte s ((([c]).getD 0 0).toNat : Int).toNat.toUInt8))]) (H' := []) [] [(3, vint .i64 (Lib.indexByte s ((([c]).getD 0 0).toNat : Int).toNat.toUInt8))] [4] (by kernel_rfl) ?_ ?_
      · refine al ?_ (al ?_ (al ?_ (trivial)))
        · omega
        · omega
        · exact slite_ok _ _
      refine tr_then ?_
      refine tr_pre (E' := (4, none, vint .i64 (Lib.indexByte s c)) :: [(4, none, vint .i64 (Lib.indexByte s ((([c]).getD 0 0).toNat : Int).toNat.toUInt8))]) (H' := []) (fun A_ W_ hS => sl_set_imp (d := vint .i64 (Lib.indexByte s ((([c]).getD 0 0).toNat : Int).toNat.toUInt8)) 4 (vint .i64 (Lib.indexByte s c)) (by kernel_rfl) ?_ hS) ?_
      · refine imp_eq (congrArg (fun x => D.p (eI x)) (a₁ := (Lib.indexByte s ((([c]).getD 0 0).toNat : Int).toNat.toUInt8)) (a₂ := (Lib.indexByte s c)) ?_)
        first | rfl | (simp; done) | omega | (simp_all; done) | grind
      refine tr_pre (E' := [(4, none, vint .i64 (Lib.indexByte s c))]) (H' := []) (fun A_ W_ hS => sl_proj (ts := [4]) (by kernel_rfl) hS) ?_
      exact tr_return' (vc := []) (ds := [vint .i64 (Lib.indexByte s c)]) (by kernel_rfl) trivial (by kernel_rfl) (fun _ _ h => h)
    · exact absurd (rfl) hc2
theorem indexByte_lt : ∀ (s : List UInt8) (c : UInt8), Lib.indexByte s c < s.length
  | [], c => by simp [Lib.indexByte]
  | b :: l, c => by
    have := indexByte_lt l c
    simp only [Lib.indexByte, List.length_cons]
    split
    · omega
    · split <;> omega
def cutB (s : List UInt8) (c : UInt8) : List UInt8 × List UInt8 × Bool := if 0 ≤ Lib.indexByte s c then (s.take (Lib.indexByte s c).toNat, s.drop ((Lib.indexByte s c) + 1).toNat, true) else (s, [], false)
theorem sCut1_ok (s : List UInt8) (c : UInt8) (hb0 : s.length < 4611686018427387904) : Pure Try.prog 60 [.s s, .s ([c])] (.tup [vstr ((cutB s c).1), vstr ((cutB s c).2.1), vbool ((cutB s c).2.2)]) := by
  have hx := indexByte_lt s c
  have hl : ([c] : List UInt8).length = 1 := rfl
  refine pure_of (fn := Try.f60) Try.func60 rfl rfl fun F_ W0_ => ?_
  refine tr_seq ?_
  refine tr_r (vc := []) (E' := [(0, none, vstr s), (1, none, vstr ([c]))]) (H' := []) [] [] [0, 1] (by kernel_rfl) ?_ ?_
  · exact trivial
  refine tr_then (tr_seq ?_)
  refine tr_seq ?_
  refine tr_r (vc := [Pure Try.prog 62 [.s s, .s ([c])] (vint .i64 (Lib.indexByte s c))]) (E' := [(0, none, vstr s), (1, none, vstr ([c])), (7, none, vint .i64 (Lib.indexByte s c))]) (H' := []) [] [(2, vint .i64 (Lib.indexByte s c))] [0, 1, 7] (by kernel_rfl) ?_ ?_
  · refine al ?_ (trivial)
    · exact sIndex1_ok _ _
  refine tr_then (tr_seq ?_)
  refine tr_r (vc := []) (E' := [(0, none, vstr s), (1, none, vstr ([c])), (7, none, vint .i64 (Lib.indexByte s c)), (12, none, vbool (decide (0 ≤ (Lib.indexByte s c))))]) (H' := []) [] [] [0, 1, 7, 12] (by kernel_rfl) ?_ ?_
  · exact trivial
  refine tr_then ?_
  refine tr_condP (decide (0 ≤ (Lib.indexByte s c))) (0 ≤ (Lib.indexByte s c)) (by simp) (by kernel_rfl) (fun hc1 => ?_) (fun hc1 => ?_)
  · skip
    refine tr_seq ?_
    refine tr_d (vc := [(0 : Int) ≤ 0, 0 ≤ (Lib.indexByte s c), (Lib.indexByte s c) ≤ (s.length : Int), ((s.drop 0).take (((Lib.indexByte s c).toNat) - 0)) = (s.take ((Lib.indexByte s c).toNat)), (IntKind.wrap .i64 ((Lib.indexByte s c) + ((([c]).length : Nat) : Int))) = ((Lib.indexByte s c) + ((([c]).length : Nat) : Int)), (0 : Int) ≤ ((Lib.indexByte s c) + ((([c]).length : Nat) : Int)), ((Lib.indexByte s c) + ((([c]).length : Nat) : Int)) ≤ (s.length : Int), (s.length : Int) ≤ (s.length : Int), ((s.drop (((Lib.indexByte s c) + ((([c]).length : Nat) : Int)).toNat)).take (s.length - (((Lib.indexByte s c) + ((([c]).length : Nat) : Int)).toNat))) = (s.drop (((Lib.indexByte s c) + ((([c]).length : Nat) : Int)).toNat))]) (E' := [(4, none, vstr (s.take ((Lib.indexByte s c).toNat))), (5, none, vstr (s.drop (((Lib.indexByte s c) + ((([c]).length : Nat) : Int)).toNat))), (6, none, vbool true)]) [(2, vstr (s.take ((Lib.indexByte s c).toNat))), (7, vint .i64 ((Lib.indexByte s c) + ((([c]).length : Nat) : Int))), (8, vstr (s.drop (((Lib.indexByte s c) + ((([c]).length : Nat) : Int)).toNat)))] [] [4, 5, 6] (by kernel_rfl) (by kernel_rfl) (by kernel_rfl) ?_ ?_
    · refine al ?_ (al ?_ (al ?_ (al ?_ (al ?_ (al ?_ (al ?_ (al ?_ (al ?_ (trivial)))))))))
      · omega
      · omega
      · omega
      · rfl
      · exact wr64 (by omega) (by omega) (by omega)
      · omega
      · omega
      · omega
      · exact cut_drop_str
    refine tr_then ?_
    refine tr_pre (E' := (4, none, vstr ((cutB s c).1)) :: [(4, none, vstr (s.take ((Lib.indexByte s c).toNat))), (5, none, vstr (s.drop (((Lib.indexByte s c) + ((([c]).length : Nat) : Int)).toNat))), (6, none, vbool true)]) (H' := []) (fun A_ W_ hS => sl_set_imp (d := vstr (s.take ((Lib.indexByte s c).toNat))) 4 (vstr ((cutB s c).1)) (by kernel_rfl) ?_ hS) ?_
    · refine imp_eq (congrArg (fun x => D.p (eS x)) (a₁ := (s.take ((Lib.indexByte s c).toNat))) (a₂ := ((cutB s c).1)) ?_)
      unfold cutB; rw [if_pos hc1]
    refine tr_pre (E' := [(4, none, vstr ((cutB s c).1)), (5, none, vstr (s.drop (((Lib.indexByte s c) + ((([c]).length : Nat) : Int)).toNat))), (6, none, vbool true)]) (H' := []) (fun A_ W_ hS => sl_proj (ts := [4, 5, 6]) (by kernel_rfl) hS) ?_
    refine tr_pre (E' := (5, none, vstr ((cutB s c).2.1)) :: [(4, none, vstr ((cutB s c).1)), (5, none, vstr (s.drop (((Lib.indexByte s c) + ((([c]).length : Nat) : Int)).toNat))), (6, none, vbool true)]) (H' := []) (fun A_ W_ hS => sl_set_imp (d := vstr (s.drop (((Lib.indexByte s c) + ((([c]).length : Nat) : Int)).toNat))) 5 (vstr ((cutB s c).2.1)) (by kernel_rfl) ?_ hS) ?_
    · refine imp_eq (congrArg (fun x => D.p (eS x)) (a₁ := (s.drop (((Lib.indexByte s c) + ((([c]).length : Nat) : Int)).toNat))) (a₂ := ((cutB s c).2.1)) ?_)
      unfold cutB; rw [if_pos hc1]; simp
    refine tr_pre (E' := [(4, none, vstr ((cutB s c).1)), (5, none, vstr ((cutB s c).2.1)), (6, none, vbool true)]) (H' := []) (fun A_ W_ hS => sl_proj (ts := [4, 5, 6]) (by kernel_rfl) hS) ?_
    refine tr_pre (E' := (6, none, vbool ((cutB s c).2.2)) :: [(4, none, vstr ((cutB s c).1)), (5, none, vstr ((cutB s c).2.1)), (6, none, vbool true)]) (H' := []) (fun A_ W_ hS => sl_set_imp (d := vbool true) 6 (vbool ((cutB s c).2.2)) (by kernel_rfl) ?_ hS) ?_
    · refine imp_eq (congrArg (fun x => D.p (eB x)) (a₁ := true) (a₂ := ((cutB s c).2.2)) ?_)
      unfold cutB; rw [if_pos hc1]
    refine tr_pre (E' := [(4, none, vstr ((cutB s c).1)), (5, none, vstr ((cutB s c).2.1)), (6, none, vbool ((cutB s c).2.2))]) (H' := []) (fun A_ W_ hS => sl_proj (ts := [4, 5, 6]) (by kernel_rfl) hS) ?_
    exact tr_return' (vc := []) (ds := [vstr ((cutB s c).1), vstr ((cutB s c).2.1), vbool ((cutB s c).2.2)]) (by kernel_rfl) trivial (by kernel_rfl) (fun _ _ h => h)
  · skip
    refine tr_skip ?_
    refine tr_then (tr_seq ?_)
    refine tr_r (vc := []) (E' := [(4, none, vstr s), (5, none, vstr ([] : List UInt8)), (6, none, vbool false)]) (H' := []) [] [] [4, 5, 6] (by kernel_rfl) ?_ ?_
    · exact trivial
    refine tr_then ?_
    refine tr_pre (E' := (4, none, vstr ((cutB s c).1)) :: [(4, none, vstr s), (5, none, vstr ([] : List UInt8)), (6, none, vbool false)]) (H' := []) (fun A_ W_ hS => sl_set_imp (d := vstr s) 4 (vstr ((cutB s c).1)) (by kernel_rfl) ?_ hS) ?_
    · refine imp_eq (congrArg (fun x => D.p (eS x)) (a₁ := s) (a₂ := ((cutB s c).1)) ?_)
      unfold cutB; rw [if_neg hc1]
    refine tr_pre (E' := [(4, none, vstr ((cutB s c).1)), (5, none, vstr ([] : List UInt8)), (6, none, vbool false)]) (H' := []) (fun A_ W_ hS => sl_proj (ts := [4, 5, 6]) (by kernel_rfl) hS) ?_
    refine tr_pre (E' := (5, none, vstr ((cutB s c).2.1)) :: [(4, none, vstr ((cutB s c).1)), (5, none, vstr ([] : List UInt8)), (6, none, vbool false)]) (H' := []) (fun A_ W_ hS => sl_set_imp (d := vstr ([] : List UInt8)) 5 (vstr ((cutB s c).2.1)) (by kernel_rfl) ?_ hS) ?_
    · refine imp_eq (congrArg (fun x => D.p (eS x)) (a₁ := ([] : List UInt8)) (a₂ := ((cutB s c).2.1)) ?_)
      unfold cutB; rw [if_neg hc1]
    refine tr_pre (E' := [(4, none, vstr ((cutB s c).1)), (5, none, vstr ((cutB s c).2.1)), (6, none, vbool false)]) (H' := []) (fun A_ W_ hS => sl_proj (ts := [4, 5, 6]) (by kernel_rfl) hS) ?_
    refine tr_pre (E' := (6, none, vbool ((cutB s c).2.2)) :: [(4, none, vstr ((cutB s c).1)), (5, none, vstr ((cutB s c).2.1)), (6, none, vbool false)]) (H' := []) (fun A_ W_ hS => sl_set_imp (d := vbool false) 6 (vbool ((cutB s c).2.2)) (by kernel_rfl) ?_ hS) ?_
    · refine imp_eq (congrArg (fun x => D.p (eB x)) (a₁ := false) (a₂ := ((cutB s c).2.2)) ?_)
      unfold cutB; rw [if_neg hc1]
    refine tr_pre (E' := [(4, none, vstr ((cutB s c).1)), (5, none, vstr ((cutB s c).2.1)), (6, none, vbool ((cutB s c).2.2))]) (H' := []) (fun A_ W_ hS => sl_proj (ts := [4, 5, 6]) (by kernel_rfl) hS) ?_
    exact tr_return' (vc := []) (ds := [vstr ((cutB s c).1), vstr ((cutB s c).2.1), vbool ((cutB s c).2.2)]) (by kernel_rfl) trivial (by kernel_rfl) (fun _ _ h => h)
theorem cut1_ok (s : List UInt8) (c : UInt8) (hb0 : s.length < 4611686018427387904) : Pure Try.prog 57 [.s s, .s ([c])] (.tup [vstr ((cutB s c).1), vstr ((cutB s c).2.1), vbool ((cutB s c).2.2)]) := by
  refine pure_of (fn := Try.f57) Try.func57 rfl rfl fun F_ W0_ => ?_
  refine tr_seq ?_
  refine tr_r (vc := []) (E' := [(0, none, vstr s), (1, none, vstr ([c]))]) (H' := []) [] [] [0, 1] (by kernel_rfl) ?_ ?_
  · exact trivial
  refine tr_then (tr_seq ?_)
  refine tr_r (vc := [Pure Try.prog 60 [.s s, .s ([c])] (.tup [vstr ((cutB s c).1), vstr ((cutB s c).2.1), vbool ((cutB s c).2.2)])]) (E' := [(4, none, vstr ((cutB s c).1)), (5, none, vstr ((cutB s c).2.1)), (6, none, vbool ((cutB s c).2.2))]) (H' := []) [] [(2, .tup [vstr ((cutB s c).1), vstr ((cutB s c).2.1), vbool ((cutB s c).2.2)])] [4, 5, 6] (by kernel_rfl) ?_ ?_
  · refine al ?_ (trivial)
    · exact sCut1_ok _ _ (by omega)
  refine tr_then ?_
  exact tr_return' (vc := []) (ds := [vstr ((cutB s c).1), vstr ((cutB s c).2.1), vbool ((cutB s c).2.2)]) (by kernel_rfl) trivial (by kernel_rfl) (fun _ _ h => h)
end Go.Proofs.Ytjnjmnfacaakfaa
