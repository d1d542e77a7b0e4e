/-
  LanguageParses: whatever the input, the call returns true, and each argument reads afterwards as it read before. (Part 7 of 9 of its proof.)
-/
import Derived.Test.YtjnjmnfacaakfaaCP6
import Derived.Test.YtjnjmnfacaakfaaRows
namespace Go.Proofs.Ytjnjmnfacaakfaa
open Go.Eng
theorem memF_le {s : List UInt8} {f p : Nat} (h : p < s.length) (hr : (memF s f p).2.2 = true) : p < (memF s f p).2.1 ∧ (memF s f p).2.1 ≤ s.length := memR_le h hr
theorem setL_le {s : List UInt8} {f : Nat} : ∀ {n p : Nat} {o : Nat → Bool}, p ≤ s.length → (setL n s f p o).2.2 = true → p < (setL n s f p o).2.1 ∧ (setL n s f p o).2.1 ≤ s.length
  | 0, _, _, _, h => by cases h
  | n + 1, p, o, hp, h => by
    unfold setL at h ⊢
    by_cases h1 : ((p : Nat) : Int) < ((s.length : Nat) : Int) ∧ ((s.getD p 0).toNat : Int) ≠ 93
    · rw [if_pos h1] at h ⊢
      by_cases h2 : (memF s f p).2.2 = false
      · rw [if_pos h2] at h; cases h
      · rw [if_neg h2] at h ⊢
        have := memF_le (s := s) (f := f) (p := p) (by omega) (eq_true_of_ne_false h2)
        have ih := setL_le this.2 h
        exact ⟨by omega, ih.2⟩
    · rw [if_neg h1] at h ⊢
      simp only [Bool.and_eq_true, decide_eq_true_eq] at h
      exact ⟨by simp, by simp only; omega⟩
theorem setR_le {s : List UInt8} {p : Nat} (hp : p < s.length) (h : (setR s p).2.2 = true) : p < (setR s p).2.1 ∧ (setR s p).2.1 ≤ s.length := by
  unfold setR at h ⊢
  split
  · rename_i h1
    rw [if_pos h1] at h
    split
    · rename_i h2; rw [if_pos h2] at h; cases h
    · exact ⟨by simp, by simp only; omega⟩
  · rename_i h1
    rw [if_neg h1] at h
    have := setL_le (by omega) h
    exact ⟨by omega, this.2⟩
def HasM (s : List UInt8) (q : Nat) : Prop := ((q : Nat) : Int) < ((s.length : Nat) : Int) ∧ ((((s.getD q 0).toNat : Int) = 63 ∨ ((s.getD q 0).toNat : Int) = 43) ∨ ((s.getD q 0).toNat : Int) = 42)
instance (s : List UInt8) (q : Nat) : Decidable (HasM s q) := inferInstanceAs (Decidable (_ ∧ _))
def moR (s : List UInt8) (q : Nat) : Int := if HasM s q then ((s.getD q 0).toNat : Int) else 0
def nxR (s : List UInt8) (q : Nat) : Nat := if HasM s q then q + 1 else q
def moT (m : Int) : Int := if m = 43 then 42 else m
def addR (cur : List Piece) (x : Nat → Bool) (m : Int) : List Piece := if m = 43 then cur ++ [({ Set := x } : Piece)] else cur
def brR : Nat → List UInt8 → Nat → List Piece → List (List Piece) → Option (List (List Piece))
  | 0, _, _, _, _ => none
  | n + 1, s, p, cur, out => if ((p : Nat) : Int) < ((s.length : Nat) : Int) then
      (if ((s.getD p 0).toNat : Int) = 124 then (if ((cur.length : Nat) : Int) = 0 then none else brR n s (p + 1) [] (out ++ [cur]))
        else if (setR s p).2.2 = false then none
        else brR n s (nxR s (setR s p).2.1) (addR cur (setR s p).1 (moR s (setR s p).2.1) ++ [({ Set := (setR s p).1, More := moT (moR s (setR s p).2.1) } : Piece)]) out)
    else if ((cur.length : Nat) : Int) = 0 then none else some (out ++ [cur])
def branchesR (s : List UInt8) : Option (List (List Piece)) := brR (s.length + 1) s 0 [] []
def brOf (x : Option (List (List Piece))) : List (List Piece) := match x with
  | some y => y
  | none => []
theorem nxR_le {s : List UInt8} {q : Nat} (h : q ≤ s.length) : q ≤ nxR s q ∧ nxR s q ≤ s.length := by
  unfold nxR
  split
  · rename_i h1; have := h1.1; omega
  · omega
theorem addR_len {cur : List Piece} {x : Nat → Bool} {m : Int} : (addR cur x m).length ≤ cur.length + 1 := by
  unfold addR
  split <;> simp
section
variable {n p : Nat} {s : List UInt8} {cur : List Piece} {out : List (List Piece)}
theorem brR_1 (hn : 0 < n) (h : ((p : Nat) : Int) < ((s.length : Nat) : Int)) (h1 : ((s.getD p 0).toNat : Int) = 124) (h2 : ((cur.length : Nat) : Int) = 0) : brR n s p cur out = none := by
  obtain ⟨n, rfl⟩ : ∃ j, n = j + 1 := ⟨n - 1, by omega⟩
  rw [brR, if_pos h, if_pos h1, if_pos h2]
theorem brR_2 (hn : 0 < n) (h : ((p : Nat) : Int) < ((s.length : Nat) : Int)) (h1 : ((s.getD p 0).toNat : Int) = 124) (h2 : ¬ ((cur.length : Nat) : Int) = 0) : brR n s p cur out = brR (n - 1) s (p + 1) [] (out ++ [cur]) := by
  obtain ⟨n, rfl⟩ : ∃ j, n = j + 1 := ⟨n - 1, by omega⟩
  rw [brR, if_pos h, if_pos h1, if_neg h2]; rfl
theorem brR_3 (hn : 0 < n) (h : ((p : Nat) : Int) < ((s.length : Nat) : Int)) (h1 : ¬ ((s.getD p 0).toNat : Int) = 124) (h2 : (setR s p).2.2 = false) : brR n s p cur out = none := by
  obtain ⟨n, rfl⟩ : ∃ j, n = j + 1 := ⟨n - 1, by omega⟩
  rw [brR, if_pos h, if_neg h1, if_pos h2]
theorem brR_4 (hn : 0 < n) (h : ((p : Nat) : Int) < ((s.length : Nat) : Int)) (h1 : ¬ ((s.getD p 0).toNat : Int) = 124) (h2 : ¬ (setR s p).2.2 = false) : brR n s p cur out = brR (n - 1) s (nxR s (setR s p).2.1) (addR cur (setR s p).1 (moR s (setR s p).2.1) ++ [({ Set := (setR s p).1, More := moT (moR s (setR s p).2.1) } : Piece)]) out := by
  obtain ⟨n, rfl⟩ : ∃ j, n = j + 1 := ⟨n - 1, by omega⟩
  rw [brR, if_pos h, if_neg h1, if_neg h2]; rfl
theorem brR_5 (hn : 0 < n) (h : ¬ ((p : Nat) : Int) < ((s.length : Nat) : Int)) (h2 : ((cur.length : Nat) : Int) = 0) : brR n s p cur out = none := by
  obtain ⟨n, rfl⟩ : ∃ j, n = j + 1 := ⟨n - 1, by omega⟩
  rw [brR, if_neg h, if_pos h2]
theorem brR_6 (hn : 0 < n) (h : ¬ ((p : Nat) : Int) < ((s.length : Nat) : Int)) (h2 : ¬ ((cur.length : Nat) : Int) = 0) : brR n s p cur out = some (out ++ [cur]) := by
  obtain ⟨n, rfl⟩ : ∃ j, n = j + 1 := ⟨n - 1, by omega⟩
  rw [brR, if_neg h, if_neg h2]
end
theorem refBranches_ok (s : List UInt8) (hb0 : s.length < 1000) : Pure Try.prog 27 [.s s] (.tup [.p ((eL (eL ePiece 38 dPiece) 1 []) (brOf (branchesR s))), vbool ((branchesR s).isSome)]) := by
  refine pure_of (fn := Try.f27) Try.func27 rfl rfl fun F_ W0_ => ?_
  refine tr_seq ?_
  refine tr_r (vc := []) (E' := [(0, none, vstr s)]) (H' := []) [] [] [0] (by kernel_rfl) ?_ ?_
  · exact trivial
  refine tr_then (tr_seq ?_)
  refine tr_r (vc := []) (E' := [(0, none, vstr s), (4, none, .p (.v (.slice none 0 0)))]) (H' := []) [] [] [0, 4] (by kernel_rfl) ?_ ?_
  · exact trivial
  refine tr_then (tr_seq ?_)
  refine tr_r (vc := []) (E' := [(0, none, vstr s), (4, none, .p (.v (.slice none 0 0))), (5, none, .p (.v (.slice none 0 0)))]) (H' := []) [] [] [0, 4, 5] (by kernel_rfl) ?_ ?_
  · exact trivial
  refine tr_then (tr_seq ?_)
  refine tr_r (vc := []) (E' := [(0, none, vstr s), (4, none, .p (.v (.slice none 0 0))), (5, none, .p (.v (.slice none 0 0))), (6, none, vint .i64 0)]) (H' := []) [] [] [0, 4, 5, 6] (by kernel_rfl) ?_ ?_
  · exact trivial
  refine tr_then (tr_seq ?_)
  refine tr_block ?_
  refine tr_loop (α := Nat × Nat × (List Piece) × (List (List Piece))) (fun z : Nat × Nat × (List Piece) × (List (List Piece)) => (fun (n : Nat) (p : Nat) (cur : List Piece) (out : List (List Piece)) => [(0, none, vstr s), (4, none, .own 0), (5, none, .own 1), (6, none, vint .i64 ((p : Nat) : Int))]) z.1 z.2.1 z.2.2.1 z.2.2.2) (fun z : Nat × Nat × (List Piece) × (List (List Piece)) => (fun (n : Nat) (p : Nat) (cur : List Piece) (out : List (List Piece)) => [oL 54 (eL ePiece 38 dPiece) 1 [] out, oL 95 ePiece 38 dPiece cur]) z.1 z.2.1 z.2.2.1 z.2.2.2) (fun z : Nat × Nat × (List Piece) × (List (List Piece)) => (fun (n : Nat) (p : Nat) (cur : List Piece) (out : List (List Piece)) => (brR n s p cur out = branchesR s) ∧ (s.length < n + p) ∧ (p ≤ s.length) ∧ (cur.length ≤ 2 * p) ∧ (out.length ≤ p)) z.1 z.2.1 z.2.2.1 z.2.2.2) (fun z : Nat × Nat × (List Piece) × (List (List Piece)) => (fun (n : Nat) (p : Nat) (cur : List Piece) (out : List (List Piece)) => s.length - p) z.1 z.2.1 z.2.2.1 z.2.2.2) ((s.length + 1), 0, ([] : List Piece), ([] : List (List Piece))) ?_ ?_ ?_
  · show (brR (s.length + 1) s 0 ([] : List Piece) ([] : List (List Piece)) = branchesR s) ∧ (s.length < (s.length + 1) + 0) ∧ (0 ≤ s.length) ∧ (([] : List Piece).length ≤ 2 * 0) ∧ (([] : List (List Piece)).length ≤ 0)
    refine ⟨?_, ?_, ?_, ?_, ?_⟩
    · rfl
    · omega
    · omega
    · (simp; done)
    · (simp; done)
  · intro A_ W_ hS
    replace hS := sl_nil 4 54 1 (fun i => .p ((eL ePiece 38 dPiece) (([] : List (List Piece)).getD i []))) (by kernel_rfl) hS
    replace hS := sl_nil 5 95 38 (fun i => .p (ePiece (([] : List Piece).getD i dPiece))) (by kernel_rfl) hS
    replace hS := sl_set (d := vint .i64 0) 6 (vint .i64 ((0 : Nat) : Int)) (by kernel_rfl) (eqD_int (by omega)) hS
    exact sl_weak (vc := [∀ i, i < ([] : List (List Piece)).length → D.p ((eL ePiece 38 dPiece) (([] : List (List Piece)).getD i [])) = .p ((eL ePiece 38 dPiece) (([] : List (List Piece)).getD i [])), ∀ i, i < ([] : List Piece).length → D.p (ePiece (([] : List Piece).getD i dPiece)) = .p (ePiece (([] : List Piece).getD i dPiece))]) [0, 1] [0, 4, 5, 6] (by kernel_rfl) (al (fun _ _ => rfl) (al (fun _ _ => rfl) trivial)) hS
  · intro z hz
    obtain ⟨n, p, cur, out⟩ := z
    have hz : (brR n s p cur out = branchesR s) ∧ (s.length < n + p) ∧ (p ≤ s.length) ∧ (cur.length ≤ 2 * p) ∧ (out.length ≤ p) := hz
    obtain ⟨hi0_0, hi0_1, hi0_2, hi0_3, hi0_4⟩ := hz
    have hsl := fun (h : p < s.length) (h1 : ¬ (setR s p).2.2 = false) => setR_le (s := s) (p := p) h (eq_true_of_ne_false h1)
    have hnx := nxR_le (s := s) (q := (setR s p).2.1)
    have hal := addR_len (cur := cur) (x := (setR s p).1) (m := moR s (setR s p).2.1)
    refine tr_seq ?_
    refine tr_seq ?_
    refine tr_r (vc := []) (E' := [(0, none, vstr s), (4, none, .own 0), (5, none, .own 1), (6, none, vint .i64 ((p : Nat) : Int)), (14, none, vbool (decide (((p : Nat) : Int) < ((s.length : Nat) : Int))))]) (H' := [oL 54 (eL ePiece 38 dPiece) 1 [] out, oL 95 ePiece 38 dPiece cur]) [] [] [0, 4, 5, 6, 14] (by kernel_rfl) ?_ ?_
    · exact trivial
    refine tr_then ?_
    refine tr_condP (decide (((p : Nat) : Int) < ((s.length : Nat) : Int))) (((p : Nat) : Int) < ((s.length : Nat) : Int)) (by simp) (by kernel_rfl) (fun hc1 => ?_) (fun hc1 => ?_)
    · skip
      refine tr_skip ?_
      refine tr_then ?_
      refine tr_block ?_
      refine tr_seq ?_
      refine tr_seq ?_
      refine tr_r (vc := [(0 : Int) ≤ ((p : Nat) : Int), ((p : Nat) : Int) < (s.length : Int)]) (E' := [(0, none, vstr s), (4, none, .own 0), (5, none, .own 1), (6, none, vint .i64 ((p : Nat) : Int)), (18, none, vbool (((s.getD p 0).toNat : Int) == 124))]) (H' := [oL 54 (eL ePiece 38 dPiece) 1 [] out, oL 95 ePiece 38 dPiece cur]) [] [] [0, 4, 5, 6, 18] (by kernel_rfl) ?_ ?_
      · refine al ?_ (al ?_ (trivial))
        · omega
        · omega
      refine tr_then ?_
      refine tr_condP (((s.getD p 0).toNat : Int) == 124) (((s.getD p 0).toNat : Int) = 124) (by simp) (by kernel_rfl) (fun hc2 => ?_) (fun hc2 => ?_)
      · skip
        refine tr_seq ?_
        refine tr_seq ?_
        refine tr_r (vc := []) (E' := [(0, none, vstr s), (4, none, .own 0), (5, none, .own 1), (6, none, vint .i64 ((p : Nat) : Int)), (21, none, vbool (((cur.length : Nat) : Int) == 0))]) (H' := [oL 54 (eL ePiece 38 dPiece) 1 [] out, oL 95 ePiece 38 dPiece cur]) [] [] [0, 4, 5, 6, 21] (by kernel_rfl) ?_ ?_
        · exact trivial
        refine tr_then ?_
        refine tr_condP (((cur.length : Nat) : Int) == 0) (((cur.length : Nat) : Int) = 0) (by simp) (by kernel_rfl) (fun hc3 => ?_) (fun hc3 => ?_)
        · skip
          refine tr_seq ?_
          refine tr_r (vc := []) (E' := [(2, none, .p (.v (.slice none 0 0))), (3, none, vbool false)]) (H' := [oL 54 (eL ePiece 38 dPiece) 1 [] out, oL 95 ePiece 38 dPiece cur]) [] [] [2, 3] (by kernel_rfl) ?_ ?_
          · exact trivial
          refine tr_then ?_
          refine tr_pre (E' := [(2, none, .p (.v (.slice none 0 0))), (3, none, vbool false)]) (H' := []) (fun A_ W_ hS => sl_weak (vc := []) [] [2, 3] (by kernel_rfl) trivial hS) ?_
          refine tr_pre (E' := (2, none, .p ((eL (eL ePiece 38 dPiece) 1 []) (brOf (branchesR s)))) :: [(2, none, .p (.v (.slice none 0 0))), (3, none, vbool false)]) (H' := []) (fun A_ W_ hS => sl_set_imp (d := .p (.v (.slice none 0 0))) 2 (.p ((eL (eL ePiece 38 dPiece) 1 []) (brOf (branchesR s)))) (by kernel_rfl) ?_ hS) ?_
          · refine imp_nil (brOf (branchesR s)) ?_
            rw [← hi0_0]; first | (rw [brR_1 (by omega) hc1 hc2 hc3]; rfl) | (rw [brR_3 (by omega) hc1 hc2 hc4]; rfl) | (rw [brR_5 (by omega) hc1 hc7]; rfl) | (rw [brR_6 (by omega) hc1 hc7]; rfl)
          refine tr_pre (E' := [(2, none, .p ((eL (eL ePiece 38 dPiece) 1 []) (brOf (branchesR s)))), (3, none, vbool false)]) (H' := []) (fun A_ W_ hS => sl_proj (ts := [2, 3]) (by kernel_rfl) hS) ?_
          refine tr_pre (E' := (3, none, vbool ((branchesR s).isSome)) :: [(2, none, .p ((eL (eL ePiece 38 dPiece) 1 []) (brOf (branchesR s)))), (3, none, vbool false)]) (H' := []) (fun A_ W_ hS => sl_set_imp (d := vbool false) 3 (vbool ((branchesR s).isSome)) (by kernel_rfl) ?_ hS) ?_
          · refine imp_eq (congrArg (fun x => D.p (eB x)) (a₁ := false) (a₂ := ((branchesR s).isSome)) ?_)
            rw [← hi0_0]; first | (rw [brR_1 (by omega) hc1 hc2 hc3]; rfl) | (rw [brR_3 (by omega) hc1 hc2 hc4]; rfl) | (rw [brR_5 (by omega) hc1 hc7]; rfl) | (rw [brR_6 (by omega) hc1 hc7]; rfl)
          refine tr_pre (E' := [(2, none, .p ((eL (eL ePiece 38 dPiece) 1 []) (brOf (branchesR s)))), (3, none, vbool ((branchesR s).isSome))]) (H' := []) (fun A_ W_ hS => sl_proj (ts := [2, 3]) (by kernel_rfl) hS) ?_
          exact tr_return' (vc := []) (ds := [.p ((eL (eL ePiece 38 dPiece) 1 []) (brOf (branchesR s))), vbool ((branchesR s).isSome)]) (by kernel_rfl) trivial (by kernel_rfl) (fun _ _ h => h)
        · skip
          refine tr_skip ?_
          refine tr_then (tr_seq ?_)
          refine tr_pre (E' := [(0, none, vstr s), (4, none, .own 0), (5, none, .p ((eL ePiece 38 dPiece) cur)), (6, none, vint .i64 ((p : Nat) : Int)), (21, none, vbool (((cur.length : Nat) : Int) == 0))]) (H' := [oL 54 (eL ePiece 38 dPiece) 1 [] out, .dead]) (fun A_ W_ hS => sl_freeze (vc := [∀ j, j < cur.length → D.p (ePiece (cur.getD j dPiece)) = .p ((fun j => ePiece (cur.getD j dPiece)) j), ∀ i, i < out.length → D.p ((eL ePiece 38 dPiece) (out.getD i [])) = .p ((eL ePiece 38 dPiece) (out.getD i []))]) 1 (fun j => ePiece (cur.getD j dPiece)) (by kernel_rfl) (al (fun _ _ => rfl) (al (fun _ _ => rfl) trivial)) hS) ?_
          refine tr_r (vc := [∀ j, j < 1 → ([(eL ePiece 38 dPiece) cur] : List PV).getD j default = (fun i => (eL ePiece 38 dPiece) (([cur]).getD i [])) j, (out.length + (([cur]).length)) * 24 ≤ 140737488355328]) (E' := [(0, none, vstr s), (4, none, .own 2), (6, none, vint .i64 ((p : Nat) : Int))]) (H' := [.dead, .dead, .arr 54 1 (out.length + ([cur]).length) (appF (fun i => .p ((eL ePiece 38 dPiece) (out.getD i []))) out.length (fun j => .p ((eL ePiece 38 dPiece) (([cur]).getD j []))))]) [] [(2, .p ((eL (eL ePiece 38 dPiece) 1 []) ([cur])))] [0, 4, 6] (by kernel_rfl) ?_ ?_
          · refine al ?_ (al ?_ (trivial))
            · exact lit_pv (e := (eL ePiece 38 dPiece)) (d := []) (l := [cur])
            · (simp_all; omega)
          refine nm_pre (E' := [(0, none, vstr s), (4, none, .own 2), (6, none, vint .i64 ((p : Nat) : Int))]) (H' := [.dead, .dead, oL 54 (eL ePiece 38 dPiece) 1 [] (out ++ ([cur]))]) (fun A_ W_ hS => sl_arr (n := (out.length + ([cur]).length)) (n' := (out ++ ([cur])).length) (f := appF (fun i => .p ((eL ePiece 38 dPiece) (out.getD i []))) out.length (fun j => .p ((eL ePiece 38 dPiece) (([cur]).getD j [])))) 2 (fun i => .p ((eL ePiece 38 dPiece) ((out ++ ([cur])).getD i []))) (by kernel_rfl) (by simp) (by first | exact appN | exact nilN | exact app0 | exact nilV _) hS) ?_
          refine tr_then (tr_seq ?_)
          refine tr_r (vc := []) (E' := [(0, none, vstr s), (4, none, .own 2), (5, none, .p (.v (.slice none 0 0))), (6, none, vint .i64 ((p : Nat) : Int))]) (H' := [.dead, .dead, oL 54 (eL ePiece 38 dPiece) 1 [] (out ++ ([cur]))]) [] [] [0, 4, 5, 6] (by kernel_rfl) ?_ ?_
          · exact trivial
          refine tr_then (tr_seq ?_)
          refine tr_r (vc := [(IntKind.wrap .i64 (((p : Nat) : Int) + 1)) = (((p + 1) : Nat) : Int)]) (E' := [(0, none, vstr s), (4, none, .own 2), (5, none, .p (.v (.slice none 0 0))), (6, none, vint .i64 (((p + 1) : Nat) : Int))]) (H' := [.dead, .dead, oL 54 (eL ePiece 38 dPiece) 1 [] (out ++ ([cur]))]) [(1, vint .i64 (((p + 1) : Nat) : Int))] [] [0, 4, 5, 6] (by kernel_rfl) ?_ ?_
          · refine al ?_ (trivial)
            · exact wr64 (by omega) (by omega) (by omega)
          refine tr_then ?_
          refine tr_exit ?_
          refine th_e ?_
          refine in_hit ?_
          refine lp_end ((n - 1), (p + 1), ([] : List Piece), (out ++ ([cur]))) ?_ ?_ ?_
          · show (brR (n - 1) s (p + 1) ([] : List Piece) (out ++ ([cur])) = branchesR s) ∧ (s.length < (n - 1) + (p + 1)) ∧ ((p + 1) ≤ s.length) ∧ (([] : List Piece).length ≤ 2 * (p + 1)) ∧ ((out ++ ([cur])).length ≤ (p + 1))
            refine ⟨?_, ?_, ?_, ?_, ?_⟩
            · rw [← hi0_0]; first | (rw [brR_2 (n := n) (by omega) hc1 hc2 hc3]; done) | (rw [brR_4 (n := n) (by omega) hc1 hc2 hc4]; done)
            · omega
            · omega
            · (simp; done)
            · (simp_all; done)
          · show s.length - (p + 1) < s.length - p
            first | omega | (have h1 := hsl (by omega) hc4; have h2 := hnx h1.2; omega)
          · intro A_ W_ hS
            replace hS := sl_nil 5 95 38 (fun i => .p (ePiece (([] : List Piece).getD i dPiece))) (by kernel_rfl) hS
            exact sl_weak (vc := [∀ i, i < (out ++ ([cur])).length → D.p ((eL ePiece 38 dPiece) ((out ++ ([cur])).getD i [])) = .p ((eL ePiece 38 dPiece) ((out ++ ([cur])).getD i [])), ∀ i, i < ([] : List Piece).length → D.p (ePiece (([] : List Piece).getD i dPiece)) = .p (ePiece (([] : List Piece).getD i dPiece))]) [2, 3] [0, 4, 5, 6] (by kernel_rfl) (al (fun _ _ => rfl) (al (fun _ _ => rfl) trivial)) hS
      · skip
        refine tr_skip ?_
        refine tr_then (tr_seq ?_)
        refine tr_r (vc := [Pure Try.prog 46 [.s s, .v (.int .i64 ((p : Nat) : Int))] (.tup [.p ((eA eB 1 37) ((setR s p).1)), vint .i64 (((setR s p).2.1 : Nat) : Int), vbool ((setR s p).2.2)])]) (E' := [(0, none, vstr s), (4, none, .own 0), (5, none, .own 1), (7, none, .ref 2 []), (8, none, vint .i64 (((setR s p).2.1 : Nat) : Int)), (9, none, vbool ((setR s p).2.2))]) (H' := [oL 54 (eL ePiece 38 dPiece) 1 [] out, oL 95 ePiece 38 dPiece cur, .box (.p ((eA eB 1 37) ((setR s p).1)))]) [] [(2, .tup [.p ((eA eB 1 37) ((setR s p).1)), vint .i64 (((setR s p).2.1 : Nat) : Int), vbool ((setR s p).2.2)])] [0, 4, 5, 7, 8, 9] (by kernel_rfl) ?_ ?_
        · refine al ?_ (trivial)
          · exact refSet_ok _ _ (by omega) (by omega)
        refine tr_then (tr_seq ?_)
        refine tr_seq ?_
        refine tr_r (vc := []) (E' := [(0, none, vstr s), (4, none, .own 0), (5, none, .own 1), (7, none, .ref 2 []), (8, none, vint .i64 (((setR s p).2.1 : Nat) : Int)), (36, none, vbool (!((setR s p).2.2)))]) (H' := [oL 54 (eL ePiece 38 dPiece) 1 [] out, oL 95 ePiece 38 dPiece cur, .box (.p ((eA eB 1 37) ((setR s p).1)))]) [] [] [0, 4, 5, 7, 8, 36] (by kernel_rfl) ?_ ?_
        · exact trivial
        refine tr_then ?_
        refine tr_condP (!((setR s p).2.2)) (((setR s p).2.2) = false) (by simp) (by kernel_rfl) (fun hc4 => ?_) (fun hc4 => ?_)
        · skip
          refine tr_seq ?_
          refine tr_r (vc := []) (E' := [(2, none, .p (.v (.slice none 0 0))), (3, none, vbool false)]) (H' := [oL 54 (eL ePiece 38 dPiece) 1 [] out, oL 95 ePiece 38 dPiece cur, .box (.p ((eA eB 1 37) ((setR s p).1)))]) [] [] [2, 3] (by kernel_rfl) ?_ ?_
          · exact trivial
          refine tr_then ?_
          refine tr_pre (E' := [(2, none, .p (.v (.slice none 0 0))), (3, none, vbool false)]) (H' := []) (fun A_ W_ hS => sl_weak (vc := []) [] [2, 3] (by kernel_rfl) trivial hS) ?_
          refine tr_pre (E' := (2, none, .p ((eL (eL ePiece 38 dPiece) 1 []) (brOf (branchesR s)))) :: [(2, none, .p (.v (.slice none 0 0))), (3, none, vbool false)]) (H' := []) (fun A_ W_ hS => sl_set_imp (d := .p (.v (.slice none 0 0))) 2 (.p ((eL (eL ePiece 38 dPiece) 1 []) (brOf (branchesR s)))) (by kernel_rfl) ?_ hS) ?_
          · refine imp_nil (brOf (branchesR s)) ?_
            rw [← hi0_0]; first | (rw [brR_1 (by omega) hc1 hc2 hc3]; rfl) | (rw [brR_3 (by omega) hc1 hc2 hc4]; rfl) | (rw [brR_5 (by omega) hc1 hc7]; rfl) | (rw [brR_6 (by omega) hc1 hc7]; rfl)
          refine tr_pre (E' := [(2, none, .p ((eL (eL ePiece 38 dPiece) 1 []) (brOf (branchesR s)))), (3, none, vbool false)]) (H' := []) (fun A_ W_ hS => sl_proj (ts := [2, 3]) (by kernel_rfl) hS) ?_
          refine tr_pre (E' := (3, none, vbool ((branchesR s).isSome)) :: [(2, none, .p ((eL (eL ePiece 38 dPiece) 1 []) (brOf (branchesR s)))), (3, none, vbool false)]) (H' := []) (fun A_ W_ hS => sl_set_imp (d := vbool false) 3 (vbool ((branchesR s).isSome)) (by kernel_rfl) ?_ hS) ?_
          · refine imp_eq (congrArg (fun x => D.p (eB x)) (a₁ := false) (a₂ := ((branchesR s).isSome)) ?_)
            rw [← hi0_0]; first | (rw [brR_1 (by omega) hc1 hc2 hc3]; rfl) | (rw [brR_3 (by omega) hc1 hc2 hc4]; rfl) | (rw [brR_5 (by omega) hc1 hc7]; rfl) | (rw [brR_6 (by omega) hc1 hc7]; rfl)
          refine tr_pre (E' := [(2, none, .p ((eL (eL ePiece 38 dPiece) 1 []) (brOf (branchesR s)))), (3, none, vbool ((branchesR s).isSome))]) (H' := []) (fun A_ W_ hS => sl_proj (ts := [2, 3]) (by kernel_rfl) hS) ?_
          exact tr_return' (vc := []) (ds := [.p ((eL (eL ePiece 38 dPiece) 1 []) (brOf (branchesR s))), vbool ((branchesR s).isSome)]) (by kernel_rfl) trivial (by kernel_rfl) (fun _ _ h => h)
        · skip
          refine tr_skip ?_
          refine tr_then (tr_seq ?_)
          refine tr_r (vc := []) (E' := [(0, none, vstr s), (4, none, .own 0), (5, none, .own 1), (6, none, vint .i64 (((setR s p).2.1 : Nat) : Int)), (7, none, .ref 2 [])]) (H' := [oL 54 (eL ePiece 38 dPiece) 1 [] out, oL 95 ePiece 38 dPiece cur, .box (.p ((eA eB 1 37) ((setR s p).1)))]) [] [] [0, 4, 5, 6, 7] (by kernel_rfl) ?_ ?_
          · exact trivial
          refine tr_then (tr_seq ?_)
          refine tr_r (vc := []) (E' := [(0, none, vstr s), (4, none, .own 0), (5, none, .own 1), (6, none, vint .i64 (((setR s p).2.1 : Nat) : Int)), (7, none, .ref 2 []), (10, none, vint .u8 0)]) (H' := [oL 54 (eL ePiece 38 dPiece) 1 [] out, oL 95 ePiece 38 dPiece cur, .box (.p ((eA eB 1 37) ((setR s p).1)))]) [] [] [0, 4, 5, 6, 7, 10] (by kernel_rfl) ?_ ?_
          · exact trivial
          refine tr_then ?_
          refine tr_join (α := Unit) (fun z : Unit => [(0, none, vstr s), (4, none, .own 0), (5, none, .own 1), (6, none, vint .i64 (((nxR s (setR s p).2.1) : Nat) : Int)), (7, none, .ref 2 []), (10, none, vint .u8 (moR s (setR s p).2.1))]) (fun z : Unit => [oL 54 (eL ePiece 38 dPiece) 1 [] out, oL 95 ePiece 38 dPiece cur, .box (.p ((eA eB 1 37) ((setR s p).1)))]) (fun z : Unit => True) ?_ ?_
          · intro z hz
            refine tr_join (α := Unit) (fun z : Unit => [(0, none, vstr s), (4, none, .own 0), (5, none, .own 1), (6, none, vint .i64 (((nxR s (setR s p).2.1) : Nat) : Int)), (7, none, .ref 2 []), (10, none, vint .u8 (moT (moR s (setR s p).2.1)))]) (fun z : Unit => [oL 54 (eL ePiece 38 dPiece) 1 [] out, oL 95 ePiece 38 dPiece (addR cur (setR s p).1 (moR s (setR s p).2.1)), .box (.p ((eA eB 1 37) ((setR s p).1)))]) (fun z : Unit => True) ?_ ?_
            · intro z hz
              refine tr_r (vc := [∀ j, j < 1 → ([.agg [(eA eB 1 37) ((setR s p).1), .v (.int .u8 (moT (moR s (setR s p).2.1)))]] : List PV).getD j default = (fun i => ePiece (([({ Set := (setR s p).1, More := (moT (moR s (setR s p).2.1)) } : Piece)]).getD i dPiece)) j, (((addR cur (setR s p).1 (moR s (setR s p).2.1)).length) + (([({ Set := (setR s p).1, More := (moT (moR s (setR s p).2.1)) } : Piece)]).length)) * 38 ≤ 140737488355328]) (E' := [(0, none, vstr s), (4, none, .own 0), (5, none, .own 3), (6, none, vint .i64 (((nxR s (setR s p).2.1) : Nat) : Int))]) (H' := [oL 54 (eL ePiece 38 dPiece) 1 [] out, .dead, .box (.p ((eA eB 1 37) ((setR s p).1))), .arr 95 38 ((addR cur (setR s p).1 (moR s (setR s p).2.1)).length + ([({ Set := (setR s p).1, More := (moT (moR s (setR s p).2.1)) } : Piece)]).length) (appF (fun i => .p (ePiece ((addR cur (setR s p).1 (moR s (setR s p).2.1)).getD i dPiece))) ((addR cur (setR s p).1 (moR s (setR s p).2.1)).length) (fun j => .p (ePiece (([({ Set := (setR s p).1, More := (moT (moR s (setR s p).2.1)) } : Piece)]).getD j dPiece))))]) [] [(4, .p ((eL ePiece 38 dPiece) ([({ Set := (setR s p).1, More := (moT (moR s (setR s p).2.1)) } : Piece)])))] [0, 4, 5, 6] (by kernel_rfl) ?_ ?_
              · refine al ?_ (al ?_ (trivial))
                · exact lit_pv (e := ePiece) (d := dPiece) (l := [({ Set := (setR s p).1, More := (moT (moR s (setR s p).2.1)) } : Piece)])
                · (simp_all; omega)
              refine nm_pre (E' := [(0, none, vstr s), (4, none, .own 0), (5, none, .own 3), (6, none, vint .i64 (((nxR s (setR s p).2.1) : Nat) : Int))]) (H' := [oL 54 (eL ePiece 38 dPiece) 1 [] out, .dead, .box (.p ((eA eB 1 37) ((setR s p).1))), oL 95 ePiece 38 dPiece ((addR cur (setR s p).1 (moR s (setR s p).2.1)) ++ ([({ Set := (setR s p).1, More := (moT (moR s (setR s p).2.1)) } : Piece)]))]) (fun A_ W_ hS => sl_arr (n := ((addR cur (setR s p).1 (moR s (setR s p).2.1)).length + ([({ Set := (setR s p).1, More := (moT (moR s (setR s p).2.1)) } : Piece)]).length)) (n' := ((addR cur (setR s p).1 (moR s (setR s p).2.1)) ++ ([({ Set := (setR s p).1, More := (moT (moR s (setR s p).2.1)) } : Piece)])).length) (f := appF (fun i => .p (ePiece ((addR cur (setR s p).1 (moR s (setR s p).2.1)).getD i dPiece))) ((addR cur (setR s p).1 (moR s (setR s p).2.1)).length) (fun j => .p (ePiece (([({ Set := (setR s p).1, More := (moT (moR s (setR s p).2.1)) } : Piece)]).getD j dPiece)))) 3 (fun i => .p (ePiece (((addR cur (setR s p).1 (moR s (setR s p).2.1)) ++ ([({ Set := (setR s p).1, More := (moT (moR s (setR s p).2.1)) } : Piece)])).getD i dPiece))) (by kernel_rfl) (by simp) (by first | exact appN | exact nilN | exact app0 | exact nilV _) hS) ?_
              refine in_n ?_
              refine lp_end ((n - 1), (nxR s (setR s p).2.1), ((addR cur (setR s p).1 (moR s (setR s p).2.1)) ++ ([({ Set := (setR s p).1, More := (moT (moR s (setR s p).2.1)) } : Piece)])), out) ?_ ?_ ?_
              · show (brR (n - 1) s (nxR s (setR s p).2.1) ((addR cur (setR s p).1 (moR s (setR s p).2.1)) ++ ([({ Set := (setR s p).1, More := (moT (moR s (setR s p).2.1)) } : Piece)])) out = branchesR s) ∧ (s.length < (n - 1) + (nxR s (setR s p).2.1)) ∧ ((nxR s (setR s p).2.1) ≤ s.length) ∧ (((addR cur (setR s p).1 (moR s (setR s p).2.1)) ++ ([({ Set := (setR s p).1, More := (moT (moR s (setR s p).2.1)) } : Piece)])).length ≤ 2 * (nxR s (setR s p).2.1)) ∧ (out.length ≤ (nxR s (setR s p).2.1))
                refine ⟨?_, ?_, ?_, ?_, ?_⟩
                · rw [← hi0_0]; first | (rw [brR_2 (n := n) (by omega) hc1 hc2 hc3]; done) | (rw [brR_4 (n := n) (by omega) hc1 hc2 hc4]; done)
                · grind
                · (simp_all; done)
                · grind
                · grind
              · show s.length - (nxR s (setR s p).2.1) < s.length - p
                first | omega | (have h1 := hsl (by omega) hc4; have h2 := hnx h1.2; omega)
              · intro A_ W_ hS
                exact sl_weak (vc := [∀ i, i < out.length → D.p ((eL ePiece 38 dPiece) (out.getD i [])) = .p ((eL ePiece 38 dPiece) (out.getD i [])), ∀ i, i < ((addR cur (setR s p).1 (moR s (setR s p).2.1)) ++ ([({ Set := (setR s p).1, More := (moT (moR s (setR s p).2.1)) } : Piece)])).length → D.p (ePiece (((addR cur (setR s p).1 (moR s (setR s p).2.1)) ++ ([({ Set := (setR s p).1, More := (moT (moR s (setR s p).2.1)) } : Piece)])).getD i dPiece)) = .p (ePiece (((addR cur (setR s p).1 (moR s (setR s p).2.1)) ++ ([({ Set := (setR s p).1, More := (moT (moR s (setR s p).2.1)) } : Piece)])).getD i dPiece))]) [0, 3] [0, 4, 5, 6] (by kernel_rfl) (al (fun _ _ => rfl) (al (fun _ _ => rfl) trivial)) hS
            · skip
              refine tr_seq ?_
              refine tr_r (vc := []) (E' := [(0, none, vstr s), (4, none, .own 0), (5, none, .own 1), (6, none, vint .i64 (((nxR s (setR s p).2.1) : Nat) : Int)), (7, none, .ref 2 []), (10, none, vint .u8 (moR s (setR s p).2.1)), (66, none, vbool ((moR s (setR s p).2.1) == 43))]) (H' := [oL 54 (eL ePiece 38 dPiece) 1 [] out, oL 95 ePiece 38 dPiece cur, .box (.p ((eA eB 1 37) ((setR s p).1)))]) [] [] [0, 4, 5, 6, 7, 10, 66] (by kernel_rfl) ?_ ?_
              · exact trivial
              refine tr_then ?_
              refine tr_condP ((moR s (setR s p).2.1) == 43) ((moR s (setR s p).2.1) = 43) (by simp) (by kernel_rfl) (fun hc5 => ?_) (fun hc5 => ?_)
              · skip
                refine tr_seq ?_
                refine tr_r (vc := [∀ j, j < 1 → ([.agg [(eA eB 1 37) ((setR s p).1), .v (.int .u8 0)]] : List PV).getD j default = (fun i => ePiece (([({ Set := (setR s p).1, More := 0 } : Piece)]).getD i dPiece)) j, (cur.length + (([({ Set := (setR s p).1, More := 0 } : Piece)]).length)) * 38 ≤ 140737488355328]) (E' := [(0, none, vstr s), (4, none, .own 0), (5, none, .own 3), (6, none, vint .i64 (((nxR s (setR s p).2.1) : Nat) : Int)), (7, none, .ref 2 [])]) (H' := [oL 54 (eL ePiece 38 dPiece) 1 [] out, .dead, .box (.p ((eA eB 1 37) ((setR s p).1))), .arr 95 38 (cur.length + ([({ Set := (setR s p).1, More := 0 } : Piece)]).length) (appF (fun i => .p (ePiece (cur.getD i dPiece))) cur.length (fun j => .p (ePiece (([({ Set := (setR s p).1, More := 0 } : Piece)]).getD j dPiece))))]) [] [(3, .p ((eL ePiece 38 dPiece) ([({ Set := (setR s p).1, More := 0 } : Piece)])))] [0, 4, 5, 6, 7] (by kernel_rfl) ?_ ?_
                · refine al ?_ (al ?_ (trivial))
                  · exact lit_pv (e := ePiece) (d := dPiece) (l := [({ Set := (setR s p).1, More := 0 } : Piece)])
                  · (simp_all; omega)
                refine nm_pre (E' := [(0, none, vstr s), (4, none, .own 0), (5, none, .own 3), (6, none, vint .i64 (((nxR s (setR s p).2.1) : Nat) : Int)), (7, none, .ref 2 [])]) (H' := [oL 54 (eL ePiece 38 dPiece) 1 [] out, .dead, .box (.p ((eA eB 1 37) ((setR s p).1))), oL 95 ePiece 38 dPiece (cur ++ ([({ Set := (setR s p).1, More := 0 } : Piece)]))]) (fun A_ W_ hS => sl_arr (n := (cur.length + ([({ Set := (setR s p).1, More := 0 } : Piece)]).length)) (n' := (cur ++ ([({ Set := (setR s p).1, More := 0 } : Piece)])).length) (f := appF (fun i => .p (ePiece (cur.getD i dPiece))) cur.length (fun j => .p (ePiece (([({ Set := (setR s p).1, More := 0 } : Piece)]).getD j dPiece)))) 3 (fun i => .p (ePiece ((cur ++ ([({ Set := (setR s p).1, More := 0 } : Piece)])).getD i dPiece))) (by kernel_rfl) (by simp) (by first | exact appN | exact nilN | exact app0 | exact nilV _) hS) ?_
                refine tr_then ?_
                refine tr_r (vc := []) (E' := [(0, none, vstr s), (4, none, .own 0), (5, none, .own 3), (6, none, vint .i64 (((nxR s (setR s p).2.1) : Nat) : Int)), (7, none, .ref 2 []), (10, none, vint .u8 42)]) (H' := [oL 54 (eL ePiece 38 dPiece) 1 [] out, .dead, .box (.p ((eA eB 1 37) ((setR s p).1))), oL 95 ePiece 38 dPiece (cur ++ ([({ Set := (setR s p).1, More := 0 } : Piece)]))]) [] [] [0, 4, 5, 6, 7, 10] (by kernel_rfl) ?_ ?_
                · exact trivial
                refine jn_end () ?_ ?_
                · exact trivial
                · intro A_ W_ hS
                  replace hS := sl_set (d := vint .u8 42) 10 (vint .u8 (moT (moR s (setR s p).2.1))) (by kernel_rfl) (eqD_int (by first | (rw [moT, if_pos hc5]; done) | (rw [moT, if_neg hc5]; done))) hS
                  replace hS := sl_arr (e := 95) (sz := 38) (n := (cur ++ ([({ Set := (setR s p).1, More := 0 } : Piece)])).length) (n' := (addR cur (setR s p).1 (moR s (setR s p).2.1)).length) (f := (fun i => .p (ePiece ((cur ++ ([({ Set := (setR s p).1, More := 0 } : Piece)])).getD i dPiece)))) 3 (fun i => .p (ePiece ((addR cur (setR s p).1 (moR s (setR s p).2.1)).getD i dPiece))) (by kernel_rfl) (by first | (rw [addR, if_pos hc5]; done) | (rw [addR, if_neg hc5]; done)) (by first | (rw [addR, if_pos hc5]; exact fun _ _ => rfl) | (rw [addR, if_neg hc5]; exact fun _ _ => rfl)) hS
                  exact sl_weak (vc := [∀ i, i < out.length → D.p ((eL ePiece 38 dPiece) (out.getD i [])) = .p ((eL ePiece 38 dPiece) (out.getD i [])), ∀ i, i < (addR cur (setR s p).1 (moR s (setR s p).2.1)).length → D.p (ePiece ((addR cur (setR s p).1 (moR s (setR s p).2.1)).getD i dPiece)) = .p (ePiece ((addR cur (setR s p).1 (moR s (setR s p).2.1)).getD i dPiece))]) [0, 3, 2] [0, 4, 5, 6, 7, 10] (by kernel_rfl) (al (fun _ _ => rfl) (al (fun _ _ => rfl) trivial)) hS
              · skip
                refine tr_skip ?_
                refine jn_end () ?_ ?_
                · exact trivial
                · intro A_ W_ hS
                  replace hS := sl_set (d := vint .u8 (moR s (setR s p).2.1)) 10 (vint .u8 (moT (moR s (setR s p).2.1))) (by kernel_rfl) (eqD_int (by first | (rw [moT, if_pos hc5]; done) | (rw [moT, if_neg hc5]; done))) hS
                  replace hS := sl_arr (e := 95) (sz := 38) (n := cur.length) (n' := (addR cur (setR s p).1 (moR s (setR s p).2.1)).length) (f := (fun i => .p (ePiece (cur.getD i dPiece)))) 1 (fun i => .p (ePiece ((addR cur (setR s p).1 (moR s (setR s p).2.1)).getD i dPiece))) (by kernel_rfl) (by first | (rw [addR, if_pos hc5]; done) | (rw [addR, if_neg hc5]; done)) (by first | (rw [addR, if_pos hc5]; exact fun _ _ => rfl) | (rw [addR, if_neg hc5]; exact fun _ _ => rfl)) hS
                  exact sl_weak (vc := [∀ i, i < out.length → D.p ((eL ePiece 38 dPiece) (out.getD i [])) = .p ((eL ePiece 38 dPiece) (out.getD i [])), ∀ i, i < (addR cur (setR s p).1 (moR s (setR s p).2.1)).length → D.p (ePiece ((addR cur (setR s p).1 (moR s (setR s p).2.1)).getD i dPiece)) = .p (ePiece ((addR cur (setR s p).1 (moR s (setR s p).2.1)).getD i dPiece))]) [0, 1, 2] [0, 4, 5, 6, 7, 10] (by kernel_rfl) (al (fun _ _ => rfl) (al (fun _ _ => rfl) trivial)) hS
          · skip
            refine tr_seq ?_
            refine tr_r (vc := [(decide ((((setR s p).2.1 : Nat) : Int) < ((s.length : Nat) : Int))) = true → (decide ((((setR s p).2.1 : Nat) : Int) < ((s.length : Nat) : Int))) = true, (decide ((((setR s p).2.1 : Nat) : Int) < ((s.length : Nat) : Int))) = true → (decide ((((setR s p).2.1 : Nat) : Int) < ((s.length : Nat) : Int))) = true, (decide ((((setR s p).2.1 : Nat) : Int) < ((s.length : Nat) : Int))) = true → ((0 : Int) ≤ (((setR s p).2.1 : Nat) : Int)), (decide ((((setR s p).2.1 : Nat) : Int) < ((s.length : Nat) : Int))) = true → ((((setR s p).2.1 : Nat) : Int) < (s.length : Int)), (decide ((((setR s p).2.1 : Nat) : Int) < ((s.length : Nat) : Int))) = true → (decide ((((setR s p).2.1 : Nat) : Int) < ((s.length : Nat) : Int))) = true, (decide ((((setR s p).2.1 : Nat) : Int) < ((s.length : Nat) : Int))) = true → (decide ((((setR s p).2.1 : Nat) : Int) < ((s.length : Nat) : Int))) = true, ((decide ((((setR s p).2.1 : Nat) : Int) < ((s.length : Nat) : Int))) && (!(((s.getD ((setR s p).2.1) 0).toNat : Int) == 63))) = true → ((decide ((((setR s p).2.1 : Nat) : Int) < ((s.length : Nat) : Int))) && (!(((s.getD ((setR s p).2.1) 0).toNat : Int) == 63))) = true, ((decide ((((setR s p).2.1 : Nat) : Int) < ((s.length : Nat) : Int))) && (!(((s.getD ((setR s p).2.1) 0).toNat : Int) == 63))) = true → ((decide ((((setR s p).2.1 : Nat) : Int) < ((s.length : Nat) : Int))) && (!(((s.getD ((setR s p).2.1) 0).toNat : Int) == 63))) = true, ((decide ((((setR s p).2.1 : Nat) : Int) < ((s.length : Nat) : Int))) && (!(((s.getD ((setR s p).2.1) 0).toNat : Int) == 63))) = true → ((0 : Int) ≤ (((setR s p).2.1 : Nat) : Int)), ((decide ((((setR s p).2.1 : Nat) : Int) < ((s.length : Nat) : Int))) && (!(((s.getD ((setR s p).2.1) 0).toNat : Int) == 63))) = true → ((((setR s p).2.1 : Nat) : Int) < (s.length : Int)), ((decide ((((setR s p).2.1 : Nat) : Int) < ((s.length : Nat) : Int))) && (!(((s.getD ((setR s p).2.1) 0).toNat : Int) == 63))) = true → ((decide ((((setR s p).2.1 : Nat) : Int) < ((s.length : Nat) : Int))) && (!(((s.getD ((setR s p).2.1) 0).toNat : Int) == 63))) = true, (decide ((((setR s p).2.1 : Nat) : Int) < ((s.length : Nat) : Int))) = true → ((decide ((((setR s p).2.1 : Nat) : Int) < ((s.length : Nat) : Int))) = true → (decide ((((setR s p).2.1 : Nat) : Int) < ((s.length : Nat) : Int))) = true), ((decide ((((setR s p).2.1 : Nat) : Int) < ((s.length : Nat) : Int))) && (!(((s.getD ((setR s p).2.1) 0).toNat : Int) == 63))) = true → ((decide ((((setR s p).2.1 : Nat) : Int) < ((s.length : Nat) : Int))) && (!(((s.getD ((setR s p).2.1) 0).toNat : Int) == 63))) = true, (decide ((((setR s p).2.1 : Nat) : Int) < ((s.length : Nat) : Int))) = true → (decide ((((setR s p).2.1 : Nat) : Int) < ((s.length : Nat) : Int))) = true, ((decide ((((setR s p).2.1 : Nat) : Int) < ((s.length : Nat) : Int))) && (!((((s.getD ((setR s p).2.1) 0).toNat : Int) == 63) || (((s.getD ((setR s p).2.1) 0).toNat : Int) == 43)))) = true → ((decide ((((setR s p).2.1 : Nat) : Int) < ((s.length : Nat) : Int))) && (!((((s.getD ((setR s p).2.1) 0).toNat : Int) == 63) || (((s.getD ((setR s p).2.1) 0).toNat : Int) == 43)))) = true, ((decide ((((setR s p).2.1 : Nat) : Int) < ((s.length : Nat) : Int))) && (!((((s.getD ((setR s p).2.1) 0).toNat : Int) == 63) || (((s.getD ((setR s p).2.1) 0).toNat : Int) == 43)))) = true → ((decide ((((setR s p).2.1 : Nat) : Int) < ((s.length : Nat) : Int))) && (!((((s.getD ((setR s p).2.1) 0).toNat : Int) == 63) || (((s.getD ((setR s p).2.1) 0).toNat : Int) == 43)))) = true, ((decide ((((setR s p).2.1 : Nat) : Int) < ((s.length : Nat) : Int))) && (!((((s.getD ((setR s p).2.1) 0).toNat : Int) == 63) || (((s.getD ((setR s p).2.1) 0).toNat : Int) == 43)))) = true → ((0 : Int) ≤ (((setR s p).2.1 : Nat) : Int)), ((decide ((((setR s p).2.1 : Nat) : Int) < ((s.length : Nat) : Int))) && (!((((s.getD ((setR s p).2.1) 0).toNat : Int) == 63) || (((s.getD ((setR s p).2.1) 0).toNat : Int) == 43)))) = true → ((((setR s p).2.1 : Nat) : Int) < (s.length : Int)), ((decide ((((setR s p).2.1 : Nat) : Int) < ((s.length : Nat) : Int))) && (!((((s.getD ((setR s p).2.1) 0).toNat : Int) == 63) || (((s.getD ((setR s p).2.1) 0).toNat : Int) == 43)))) = true → ((decide ((((setR s p).2.1 : Nat) : Int) < ((s.length : Nat) : Int))) && (!((((s.getD ((setR s p).2.1) 0).toNat : Int) == 63) || (((s.getD ((setR s p).2.1) 0).toNat : Int) == 43)))) = true, (decide ((((setR s p).2.1 : Nat) : Int) < ((s.length : Nat) : Int))) = true → ((decide ((((setR s p).2.1 : Nat) : Int) < ((s.length : Nat) : Int))) = true → (decide ((((setR s p).2.1 : Nat) : Int) < ((s.length : Nat) : Int))) = true), ((decide ((((setR s p).2.1 : Nat) : Int) < ((s.length : Nat) : Int))) && (!((((s.getD ((setR s p).2.1) 0).toNat : Int) == 63) || (((s.getD ((setR s p).2.1) 0).toNat : Int) == 43)))) = true → ((decide ((((setR s p).2.1 : Nat) : Int) < ((s.length : Nat) : Int))) && (!((((s.getD ((setR s p).2.1) 0).toNat : Int) == 63) || (((s.getD ((setR s p).2.1) 0).toNat : Int) == 43)))) = true, (decide ((((setR s p).2.1 : Nat) : Int) < ((s.length : Nat) : Int))) = true → (decide ((((setR s p).2.1 : Nat) : Int) < ((s.length : Nat) : Int))) = true]) (E' := [(0, none, vstr s), (4, none, .own 0), (5, none, .own 1), (6, none, vint .i64 (((setR s p).2.1 : Nat) : Int)), (7, none, .ref 2 []), (10, none, vint .u8 0), (59, none, vbool ((decide ((((setR s p).2.1 : Nat) : Int) < ((s.length : Nat) : Int))) && (((((s.getD ((setR s p).2.1) 0).toNat : Int) == 63) || (((s.getD ((setR s p).2.1) 0).toNat : Int) == 43)) || (((s.getD ((setR s p).2.1) 0).toNat : Int) == 42))))]) (H' := [oL 54 (eL ePiece 38 dPiece) 1 [] out, oL 95 ePiece 38 dPiece cur, .box (.p ((eA eB 1 37) ((setR s p).1)))]) [] [] [0, 4, 5, 6, 7, 10, 59] (by kernel_rfl) ?_ ?_
            · refine al ?_ (al ?_ (al ?_ (al ?_ (al ?_ (al ?_ (al ?_ (al ?_ (al ?_ (al ?_ (al ?_ (al ?_ (al ?_ (al ?_ (al ?_ (al ?_ (al ?_ (al ?_ (al ?_ (al ?_ (al ?_ (al ?_ (trivial))))))))))))))))))))))
              · exact id
              · exact id
              · omega
              · (intro hg; simp at hg; omega)
              · exact id
              · exact id
              · exact id
              · exact id
              · omega
              · (intro hg; simp at hg; omega)
              · exact id
              · intro _; exact id
              · exact id
              · exact id
              · exact id
              · exact id
              · omega
              · (intro hg; simp at hg; omega)
              · exact id
              · intro _; exact id
              · exact id
              · exact id
            refine tr_then ?_
            refine tr_condP ((decide ((((setR s p).2.1 : Nat) : Int) < ((s.length : Nat) : Int))) && (((((s.getD ((setR s p).2.1) 0).toNat : Int) == 63) || (((s.getD ((setR s p).2.1) 0).toNat : Int) == 43)) || (((s.getD ((setR s p).2.1) 0).toNat : Int) == 42))) (((((setR s p).2.1 : Nat) : Int) < ((s.length : Nat) : Int)) ∧ (((((s.getD ((setR s p).2.1) 0).toNat : Int) = 63) ∨ (((s.getD ((setR s p).2.1) 0).toNat : Int) = 43)) ∨ (((s.getD ((setR s p).2.1) 0).toNat : Int) = 42))) (by simp) (by kernel_rfl) (fun hc6 => ?_) (fun hc6 => ?_)
            · skip
              refine tr_seq ?_
              refine tr_r (vc := [(0 : Int) ≤ (((setR s p).2.1 : Nat) : Int), (((setR s p).2.1 : Nat) : Int) < (s.length : Int)]) (E' := [(0, none, vstr s), (4, none, .own 0), (5, none, .own 1), (6, none, vint .i64 (((setR s p).2.1 : Nat) : Int)), (7, none, .ref 2 []), (10, none, vint .u8 ((s.getD ((setR s p).2.1) 0).toNat : Int))]) (H' := [oL 54 (eL ePiece 38 dPiece) 1 [] out, oL 95 ePiece 38 dPiece cur, .box (.p ((eA eB 1 37) ((setR s p).1)))]) [] [] [0, 4, 5, 6, 7, 10] (by kernel_rfl) ?_ ?_
              · refine al ?_ (al ?_ (trivial))
                · omega
                · omega
              refine tr_then ?_
              refine tr_r (vc := [(IntKind.wrap .i64 ((((setR s p).2.1 : Nat) : Int) + 1)) = ((((setR s p).2.1 + 1) : Nat) : Int)]) (E' := [(0, none, vstr s), (4, none, .own 0), (5, none, .own 1), (6, none, vint .i64 ((((setR s p).2.1 + 1) : Nat) : Int)), (7, none, .ref 2 []), (10, none, vint .u8 ((s.getD ((setR s p).2.1) 0).toNat : Int))]) (H' := [oL 54 (eL ePiece 38 dPiece) 1 [] out, oL 95 ePiece 38 dPiece cur, .box (.p ((eA eB 1 37) ((setR s p).1)))]) [(1, vint .i64 ((((setR s p).2.1 + 1) : Nat) : Int))] [] [0, 4, 5, 6, 7, 10] (by kernel_rfl) ?_ ?_
              · refine al ?_ (trivial)
                · exact wr64 (by omega) (by omega) (by omega)
              refine jn_end () ?_ ?_
              · exact trivial
              · intro A_ W_ hS
                replace hS := sl_set (d := vint .i64 ((((setR s p).2.1 + 1) : Nat) : Int)) 6 (vint .i64 (((nxR s (setR s p).2.1) : Nat) : Int)) (by kernel_rfl) (eqD_int (by first | (rw [nxR, if_pos (show HasM s (setR s p).2.1 from hc6)]; done) | (rw [nxR, if_neg (show ¬ HasM s (setR s p).2.1 from hc6)]; done))) hS
                replace hS := sl_set (d := vint .u8 ((s.getD ((setR s p).2.1) 0).toNat : Int)) 10 (vint .u8 (moR s (setR s p).2.1)) (by kernel_rfl) (eqD_int (by first | (rw [moR, if_pos (show HasM s (setR s p).2.1 from hc6)]; done) | (rw [moR, if_neg (show ¬ HasM s (setR s p).2.1 from hc6)]; done))) hS
                exact sl_weak (vc := [∀ i, i < out.length → D.p ((eL ePiece 38 dPiece) (out.getD i [])) = .p ((eL ePiece 38 dPiece) (out.getD i [])), ∀ i, i < cur.length → D.p (ePiece (cur.getD i dPiece)) = .p (ePiece (cur.getD i dPiece))]) [0, 1, 2] [0, 4, 5, 6, 7, 10] (by kernel_rfl) (al (fun _ _ => rfl) (al (fun _ _ => rfl) trivial)) hS
            · skip
              refine tr_skip ?_
              refine jn_end () ?_ ?_
              · exact trivial
              · intro A_ W_ hS
                replace hS := sl_set (d := vint .i64 (((setR s p).2.1 : Nat) : Int)) 6 (vint .i64 (((nxR s (setR s p).2.1) : Nat) : Int)) (by kernel_rfl) (eqD_int (by first | (rw [nxR, if_pos (show HasM s (setR s p).2.1 from hc6)]; done) | (rw [nxR, if_neg (show ¬ HasM s (setR s p).2.1 from hc6)]; done))) hS
                replace hS := sl_set (d := vint .u8 0) 10 (vint .u8 (moR s (setR s p).2.1)) (by kernel_rfl) (eqD_int (by first | (rw [moR, if_pos (show HasM s (setR s p).2.1 from hc6)]; done) | (rw [moR, if_neg (show ¬ HasM s (setR s p).2.1 from hc6)]; done))) hS
                exact sl_weak (vc := [∀ i, i < out.length → D.p ((eL ePiece 38 dPiece) (out.getD i [])) = .p ((eL ePiece 38 dPiece) (out.getD i [])), ∀ i, i < cur.length → D.p (ePiece (cur.getD i dPiece)) = .p (ePiece (cur.getD i dPiece))]) [0, 1, 2] [0, 4, 5, 6, 7, 10] (by kernel_rfl) (al (fun _ _ => rfl) (al (fun _ _ => rfl) trivial)) hS
    · skip
      refine tr_exit ?_
      refine th_e ?_
      refine th_e ?_
      refine in_hit ?_
      refine tr_then (tr_seq ?_)
      refine tr_seq ?_
      refine tr_r (vc := []) (E' := [(4, none, .own 0), (5, none, .own 1), (80, none, vbool (((cur.length : Nat) : Int) == 0))]) (H' := [oL 54 (eL ePiece 38 dPiece) 1 [] out, oL 95 ePiece 38 dPiece cur]) [] [] [4, 5, 80] (by kernel_rfl) ?_ ?_
      · exact trivial
      refine tr_then ?_
      refine tr_condP (((cur.length : Nat) : Int) == 0) (((cur.length : Nat) : Int) = 0) (by simp) (by kernel_rfl) (fun hc7 => ?_) (fun hc7 => ?_)
      · skip
        refine tr_seq ?_
        refine tr_r (vc := []) (E' := [(2, none, .p (.v (.slice none 0 0))), (3, none, vbool false)]) (H' := [oL 54 (eL ePiece 38 dPiece) 1 [] out, oL 95 ePiece 38 dPiece cur]) [] [] [2, 3] (by kernel_rfl) ?_ ?_
        · exact trivial
        refine tr_then ?_
        refine tr_pre (E' := [(2, none, .p (.v (.slice none 0 0))), (3, none, vbool false)]) (H' := []) (fun A_ W_ hS => sl_weak (vc := []) [] [2, 3] (by kernel_rfl) trivial hS) ?_
        refine tr_pre (E' := (2, none, .p ((eL (eL ePiece 38 dPiece) 1 []) (brOf (branchesR s)))) :: [(2, none, .p (.v (.slice none 0 0))), (3, none, vbool false)]) (H' := []) (fun A_ W_ hS => sl_set_imp (d := .p (.v (.slice none 0 0))) 2 (.p ((eL (eL ePiece 38 dPiece) 1 []) (brOf (branchesR s)))) (by kernel_rfl) ?_ hS) ?_
        · refine imp_nil (brOf (branchesR s)) ?_
          rw [← hi0_0]; first | (rw [brR_1 (by omega) hc1 hc2 hc3]; rfl) | (rw [brR_3 (by omega) hc1 hc2 hc4]; rfl) | (rw [brR_5 (by omega) hc1 hc7]; rfl) | (rw [brR_6 (by omega) hc1 hc7]; rfl)
        refine tr_pre (E' := [(2, none, .p ((eL (eL ePiece 38 dPiece) 1 []) (brOf (branchesR s)))), (3, none, vbool false)]) (H' := []) (fun A_ W_ hS => sl_proj (ts := [2, 3]) (by kernel_rfl) hS) ?_
        refine tr_pre (E' := (3, none, vbool ((branchesR s).isSome)) :: [(2, none, .p ((eL (eL ePiece 38 dPiece) 1 []) (brOf (branchesR s)))), (3, none, vbool false)]) (H' := []) (fun A_ W_ hS => sl_set_imp (d := vbool false) 3 (vbool ((branchesR s).isSome)) (by kernel_rfl) ?_ hS) ?_
        · refine imp_eq (congrArg (fun x => D.p (eB x)) (a₁ := false) (a₂ := ((branchesR s).isSome)) ?_)
          rw [← hi0_0]; first | (rw [brR_1 (by omega) hc1 hc2 hc3]; rfl) | (rw [brR_3 (by omega) hc1 hc2 hc4]; rfl) | (rw [brR_5 (by omega) hc1 hc7]; rfl) | (rw [brR_6 (by omega) hc1 hc7]; rfl)
        refine tr_pre (E' := [(2, none, .p ((eL (eL ePiece 38 dPiece) 1 []) (brOf (branchesR s)))), (3, none, vbool ((branchesR s).isSome))]) (H' := []) (fun A_ W_ hS => sl_proj (ts := [2, 3]) (by kernel_rfl) hS) ?_
        exact tr_return' (vc := []) (ds := [.p ((eL (eL ePiece 38 dPiece) 1 []) (brOf (branchesR s))), vbool ((branchesR s).isSome)]) (by kernel_rfl) trivial (by kernel_rfl) (fun _ _ h => h)
      · skip
        refine tr_skip ?_
        refine tr_then (tr_seq ?_)
        refine tr_pre (E' := [(4, none, .own 0), (5, none, .p ((eL ePiece 38 dPiece) cur)), (80, none, vbool (((cur.length : Nat) : Int) == 0))]) (H' := [oL 54 (eL ePiece 38 dPiece) 1 [] out, .dead]) (fun A_ W_ hS => sl_freeze (vc := [∀ j, j < cur.length → D.p (ePiece (cur.getD j dPiece)) = .p ((fun j => ePiece (cur.getD j dPiece)) j), ∀ i, i < out.length → D.p ((eL ePiece 38 dPiece) (out.getD i [])) = .p ((eL ePiece 38 dPiece) (out.getD i []))]) 1 (fun j => ePiece (cur.getD j dPiece)) (by kernel_rfl) (al (fun _ _ => rfl) (al (fun _ _ => rfl) trivial)) hS) ?_
        refine tr_r (vc := [∀ j, j < 1 → ([(eL ePiece 38 dPiece) cur] : List PV).getD j default = (fun i => (eL ePiece 38 dPiece) (([cur]).getD i [])) j, (out.length + (([cur]).length)) * 24 ≤ 140737488355328]) (E' := [(2, none, .own 2), (3, none, vbool true)]) (H' := [.dead, .dead, .arr 54 1 (out.length + ([cur]).length) (appF (fun i => .p ((eL ePiece 38 dPiece) (out.getD i []))) out.length (fun j => .p ((eL ePiece 38 dPiece) (([cur]).getD j []))))]) [] [(2, .p ((eL (eL ePiece 38 dPiece) 1 []) ([cur])))] [2, 3] (by kernel_rfl) ?_ ?_
        · refine al ?_ (al ?_ (trivial))
          · exact lit_pv (e := (eL ePiece 38 dPiece)) (d := []) (l := [cur])
          · (simp_all; omega)
        refine nm_pre (E' := [(2, none, .own 2), (3, none, vbool true)]) (H' := [.dead, .dead, oL 54 (eL ePiece 38 dPiece) 1 [] (out ++ ([cur]))]) (fun A_ W_ hS => sl_arr (n := (out.length + ([cur]).length)) (n' := (out ++ ([cur])).length) (f := appF (fun i => .p ((eL ePiece 38 dPiece) (out.getD i []))) out.length (fun j => .p ((eL ePiece 38 dPiece) (([cur]).getD j [])))) 2 (fun i => .p ((eL ePiece 38 dPiece) ((out ++ ([cur])).getD i []))) (by kernel_rfl) (by simp) (by first | exact appN | exact nilN | exact app0 | exact nilV _) hS) ?_
        refine tr_then ?_
        refine tr_pre (E' := [(2, none, .own 0), (3, none, vbool true)]) (H' := [oL 54 (eL ePiece 38 dPiece) 1 [] (out ++ ([cur]))]) (fun A_ W_ hS => sl_weak (vc := [∀ i, i < (out ++ ([cur])).length → D.p ((eL ePiece 38 dPiece) ((out ++ ([cur])).getD i [])) = .p ((eL ePiece 38 dPiece) ((out ++ ([cur])).getD i []))]) [2] [2, 3] (by kernel_rfl) (al (fun _ _ => rfl) trivial) hS) ?_
        refine tr_pre (E' := [(2, none, .p ((eL (eL ePiece 38 dPiece) 1 []) (out ++ ([cur])))), (3, none, vbool true)]) (H' := [.dead]) (fun A_ W_ hS => sl_freeze (vc := [∀ j, j < (out ++ ([cur])).length → D.p ((eL ePiece 38 dPiece) ((out ++ ([cur])).getD j [])) = .p ((fun j => (eL ePiece 38 dPiece) ((out ++ ([cur])).getD j [])) j)]) 0 (fun j => (eL ePiece 38 dPiece) ((out ++ ([cur])).getD j [])) (by kernel_rfl) (al (fun _ _ => rfl) trivial) hS) ?_
        refine tr_pre (E' := (2, none, .p ((eL (eL ePiece 38 dPiece) 1 []) (brOf (branchesR s)))) :: [(2, none, .p ((eL (eL ePiece 38 dPiece) 1 []) (out ++ ([cur])))), (3, none, vbool true)]) (H' := [.dead]) (fun A_ W_ hS => sl_set_imp (d := .p ((eL (eL ePiece 38 dPiece) 1 []) (out ++ ([cur])))) 2 (.p ((eL (eL ePiece 38 dPiece) 1 []) (brOf (branchesR s)))) (by kernel_rfl) ?_ hS) ?_
        · refine imp_eq (congrArg (fun x => D.p ((eL (eL ePiece 38 dPiece) 1 []) x)) (a₁ := (out ++ ([cur]))) (a₂ := (brOf (branchesR s))) ?_)
          rw [← hi0_0]; first | (rw [brR_1 (by omega) hc1 hc2 hc3]; rfl) | (rw [brR_3 (by omega) hc1 hc2 hc4]; rfl) | (rw [brR_5 (by omega) hc1 hc7]; rfl) | (rw [brR_6 (by omega) hc1 hc7]; rfl)
        refine tr_pre (E' := [(2, none, .p ((eL (eL ePiece 38 dPiece) 1 []) (brOf (branchesR s)))), (3, none, vbool true)]) (H' := [.dead]) (fun A_ W_ hS => sl_proj (ts := [2, 3]) (by kernel_rfl) hS) ?_
        refine tr_pre (E' := (3, none, vbool ((branchesR s).isSome)) :: [(2, none, .p ((eL (eL ePiece 38 dPiece) 1 []) (brOf (branchesR s)))), (3, none, vbool true)]) (H' := [.dead]) (fun A_ W_ hS => sl_set_imp (d := vbool true) 3 (vbool ((branchesR s).isSome)) (by kernel_rfl) ?_ hS) ?_
        · refine imp_eq (congrArg (fun x => D.p (eB x)) (a₁ := true) (a₂ := ((branchesR s).isSome)) ?_)
          rw [← hi0_0]; first | (rw [brR_1 (by omega) hc1 hc2 hc3]; rfl) | (rw [brR_3 (by omega) hc1 hc2 hc4]; rfl) | (rw [brR_5 (by omega) hc1 hc7]; rfl) | (rw [brR_6 (by omega) hc1 hc7]; rfl)
        refine tr_pre (E' := [(2, none, .p ((eL (eL ePiece 38 dPiece) 1 []) (brOf (branchesR s)))), (3, none, vbool ((branchesR s).isSome))]) (H' := [.dead]) (fun A_ W_ hS => sl_proj (ts := [2, 3]) (by kernel_rfl) hS) ?_
        exact tr_return' (vc := []) (ds := [.p ((eL (eL ePiece 38 dPiece) 1 []) (brOf (branchesR s))), vbool ((branchesR s).isSome)]) (by kernel_rfl) trivial (by kernel_rfl) (fun _ _ h => h)
end Go.Proofs.Ytjnjmnfacaakfaa
namespace Go.Proofs.Ytjnjmnfacaakfaa
open Go.Eng
theorem bitOf_word {S : Nat → Bool} {c : Nat} (h : c < 64) : bitOf (word64 S) c = S c := by
  unfold bitOf word64
  rw [shr_u64 h]
  have e : ((1 : Nat) : Int) = 1 := rfl
  have hlt : wordN S 64 >>> c < 2 ^ 64 := Nat.lt_of_le_of_lt (Nat.shiftRight_le _ _) (wordN_lt S 64)
  rw [← e, and_u64 hlt (by decide), wordN_has S h]
  cases S c <;> rfl
def SetEq (S o : Nat → Bool) : Prop := ∀ c, c < 37 → S c = o c
theorem sym_45 (b : UInt8) : sym (b.toNat : Int) = 36 ↔ b = 45 := by
  constructor
  · intro h
    have hb := b.toNat_lt
    have : (b.toNat : Int) = 45 := by
      unfold sym at h
      split at h
      · omega
      · split at h
        · omega
        · split at h
          · assumption
          · omega
    exact UInt8.toNat_inj.1 (show b.toNat = 45 by omega)
  · rintro rfl; rfl
theorem ne_byte {b c : UInt8} (n : Nat) (hc : c.toNat = n) : ((b.toNat : Int) = (n : Int)) ↔ b = c := by
  subst hc
  constructor
  · intro h
    exact UInt8.toNat_inj.1 (by omega)
  · rintro rfl; rfl
theorem drop_next {s l : List UInt8} {b : UInt8} {p : Nat} (h : s.drop p = b :: l) : p < s.length ∧ s.getD p 0 = b ∧ s.drop (p + 1) = l := by
  have hp : p < s.length := by
    by_cases hp : p < s.length
    · exact hp
    · rw [List.drop_of_length_le (by omega)] at h; cases h
  rw [drop_get (d := 0) hp] at h
  injection h with h1 h2
  exact ⟨hp, h1, h2⟩
theorem hasPre_cons (b : UInt8) (l : List UInt8) : hasPre (b :: l) [45] = true ↔ b = 45 := by
  unfold hasPre
  simp
theorem setEq_one {S o : Nat → Bool} (h : SetEq S o) {a : Int} (h0 : 0 ≤ a) : SetEq (range S a (a + 1)) (orN o (upd noSet a.toNat true) 37) := by
  intro c hc
  unfold range orN upd noSet
  rw [if_pos hc, h c hc]
  congr 1
  by_cases he : c = a.toNat
  · rw [if_pos he, decide_eq_true (by omega)]
  · rw [if_neg he, decide_eq_false (by omega)]
theorem setEq_range {S o : Nat → Bool} (h : SetEq S o) {a b : Int} (h0 : 0 ≤ a) (h1 : a ≤ b) : SetEq (range S a (b + 1)) (orN o (range (upd noSet a.toNat true) a (b + 1)) 37) := by
  intro c hc
  unfold range orN
  rw [if_pos hc, h c hc]
  congr 1
  show decide (a ≤ (c : Int) ∧ (c : Int) < b + 1) = (upd noSet a.toNat true c || decide (a ≤ (c : Int) ∧ (c : Int) < b + 1))
  unfold upd noSet
  by_cases he : c = a.toNat
  · rw [if_pos he, decide_eq_true (by omega)]; rfl
  · rw [if_neg he, Bool.false_or]
/-- A class with its end: the program's and the reference's way through it. -/
theorem setL_memb {s rest : List UInt8} {f : Nat} : ∀ {n k p : Nat} {l : List UInt8} {S o : Nat → Bool}, s.drop p = l ++ 93 :: rest → (∀ b ∈ l, b ≠ 93) → l.length ≤ k → l.length < n → (f < p ∨ f = p ∧ ∃ b l', l = b :: l' ∧ b ≠ 45) → SetEq S o →
    (memb k l S = none ∧ (setL n s f p o).2.2 = false) ∨ ∃ S', memb k l S = some S' ∧ (setL n s f p o).2.2 = true ∧ (setL n s f p o).2.1 = p + l.length + 1 ∧ SetEq S' (setL n s f p o).1
  | 0, _, _, _, _, _, _, _, _, h, _, _ => by omega
  | n + 1, k, p, [], S, o, hd, _, _, _, hf, hS => by
    have hf : f < p := hf.elim id fun ⟨_, b, l', h, _⟩ => by cases h
    obtain ⟨hp, h1, h2⟩ := drop_next hd
    refine .inr ⟨S, memb_nil rfl, ?_⟩
    have e : setL (n + 1) s f p o = (o, p + 1, decide (((p : Nat) : Int) < ((s.length : Nat) : Int)) && decide (((f : Nat) : Int) < ((p : Nat) : Int))) := by
      refine setL_3 (by omega) fun h => h.2 ?_
      rw [h1]; rfl
    rw [e]
    exact ⟨by simp; omega, by simp, hS⟩
  | n + 1, k, p, b :: l, S, o, hd, h93, hk, hn, hf, hS => by
    obtain ⟨hp, h1, h2⟩ := drop_next hd
    simp only [List.length_cons] at hk hn
    have hb : b ≠ 93 := h93 b (by simp)
    have hgo : ((p : Nat) : Int) < ((s.length : Nat) : Int) ∧ ((s.getD p 0).toNat : Int) ≠ 93 := ⟨by omega, by rw [h1]; exact fun h => hb ((ne_byte 93 rfl).1 h)⟩
    have es0 : s0 (b :: l) = sym (b.toNat : Int) := rfl
    have em0 : m0 s p = sym (b.toNat : Int) := by unfold m0; rw [h1]
    have q1 := sym_le (b.toNat : Int)
    have q2 := sym_ge (b.toNat : Int)
    have bad : (memF s f p).2.2 = false → (setL (n + 1) s f p o).2.2 = false := fun h => by rw [setL_1 (by omega) hgo h]
    have emF : memF s f p = memR s p (((p : Nat) : Int) == ((f : Nat) : Int)) := rfl
    by_cases c1 : sym (b.toNat : Int) < 0
    · refine .inl ⟨memb_1 (by simp) (by simpa using hk) (.inl (by rw [es0]; exact c1)), bad ?_⟩
      rw [emF, memR, if_pos (by rw [em0]; exact c1)]
    by_cases c2 : sym (b.toNat : Int) = 36
    · have hf : f < p := hf.elim id fun ⟨_, b', l', h, h'⟩ => by
        injection h with h3 h4
        exact absurd (h3 ▸ (sym_45 b).1 c2) h'
      refine .inl ⟨memb_1 (by simp) (by simpa using hk) (.inr (by rw [es0]; exact c2)), bad ?_⟩
      rw [emF, memR, if_neg (by rw [em0]; omega), if_pos (by rw [em0]; exact c2)]
      show (((p : Nat) : Int) == ((f : Nat) : Int)) = false
      rw [beq_eq_false_iff_ne]; omega
    have n1 : ¬ (s0 (b :: l) < 0 ∨ s0 (b :: l) = 36) := by rw [es0]; omega
    have m1 : ¬ m0 s p < 0 := by rw [em0]; exact c1
    have m2 : ¬ m0 s p = 36 := by rw [em0]; exact c2
    have hdr : (b :: l).drop 1 = l := rfl
    by_cases c3 : hasPre l [45] = true
    · match l, c3, hd, h93, hk, hn, h2, n1, es0, hdr with
      | [], c3, _, _, _, _, _, _, _, _ => simp [hasPre] at c3
      | d :: l2, c3, hd, h93, hk, hn, h2, n1, es0, hdr =>
        obtain rfl := (hasPre_cons d l2).1 c3
        simp only [List.length_cons] at hk hn
        obtain ⟨hp1, g1, g2⟩ := drop_next h2
        have m3 : ¬ (((s.length : Nat) : Int) ≤ ((p + 1 : Nat) : Int) ∨ ((s.getD (p + 1) 0).toNat : Int) ≠ 45) := by
          rw [g1]; intro h; rcases h with h | h
          · omega
          · exact h rfl
        match l2, hd, h93, hk, hn, h2, n1, es0, hdr, c3, g2 with
        | [], hd, h93, hk, hn, h2, n1, es0, hdr, c3, g2 =>
          obtain ⟨hp2, g3, g4⟩ := drop_next g2
          refine .inl ⟨memb_2 (by simp) (by simp; omega) n1 c3 (by simp), bad ?_⟩
          have e2 : m0 s (p + 2) = -1 := by unfold m0; rw [show p + 2 = p + 1 + 1 from rfl, g3]; rfl
          rw [emF, memR, if_neg m1, if_neg m2, if_neg m3, if_neg (by omega), if_pos (.inl (.inl (by rw [e2]; omega)))]
        | e :: l3, hd, h93, hk, hn, h2, n1, es0, hdr, c3, g2 =>
          obtain ⟨hp2, g3, g4⟩ := drop_next g2
          simp only [List.length_cons] at hk hn
          have es1 : s1 (b :: 45 :: e :: l3) = sym (e.toNat : Int) := rfl
          have em1 : m0 s (p + 2) = sym (e.toNat : Int) := by unfold m0; rw [show p + 2 = p + 1 + 1 from rfl, g3]
          by_cases c4 : (sym (e.toNat : Int) < sym (b.toNat : Int) ∨ sym (e.toNat : Int) = 36) ∨ sym (b.toNat : Int) < 26 ∧ 26 ≤ sym (e.toNat : Int)
          · refine .inl ⟨memb_3 (by simp) (by simp; omega) n1 c3 (by simp) (by rw [es0, es1]; exact c4), bad ?_⟩
            rw [emF, memR, if_neg m1, if_neg m2, if_neg m3, if_neg (by omega), if_pos (by rw [em0, em1]; exact c4)]
          · have e1 : memb k (b :: 45 :: e :: l3) S = memb (k - 1) l3 (range S (sym (b.toNat : Int)) (sym (e.toNat : Int) + 1)) := by
              rw [memb_4 (by simp) (by simp; omega) n1 c3 (by simp) (by rw [es0, es1]; exact c4), es0, es1]; rfl
            have e2 : memF s f p = (range (memS s p) (m0 s p) (m0 s (p + 2) + 1), p + 3, true) := by
              rw [emF, memR, if_neg m1, if_neg m2, if_neg m3, if_neg (by omega), if_neg (by rw [em0, em1]; exact c4)]
            rw [e1, setL_2 (by omega) hgo (by rw [e2]; simp), e2]
            have eS : memS s p = upd noSet (sym (b.toNat : Int)).toNat true := by unfold memS; rw [em0]
            rw [em0, em1, eS]
            have ih := setL_memb (s := s) (rest := rest) (f := f) (n := n) (k := k - 1) (p := p + 3) (l := l3) (S := range S (sym (b.toNat : Int)) (sym (e.toNat : Int) + 1))
              (o := orN o (range (upd noSet (sym (b.toNat : Int)).toNat true) (sym (b.toNat : Int)) (sym (e.toNat : Int) + 1)) 37)
              g4 (fun x hx => h93 x (by simp [hx])) (by omega) (by omega) (by left; omega) (setEq_range hS (by omega) (by omega))
            rw [Nat.add_sub_cancel]
            rcases ih with ⟨i1, i2⟩ | ⟨S', i1, i2, i3, i4⟩
            · exact .inl ⟨i1, i2⟩
            · exact .inr ⟨S', i1, i2, by rw [i3]; simp only [List.length_cons]; omega, i4⟩
    · have m3 : ((s.length : Nat) : Int) ≤ ((p + 1 : Nat) : Int) ∨ ((s.getD (p + 1) 0).toNat : Int) ≠ 45 := by
        right
        match l, c3, h2 with
        | [], _, h2 =>
          obtain ⟨_, g1, _⟩ := drop_next h2
          rw [g1]; decide
        | d :: l2, c3, h2 =>
          obtain ⟨_, g1, _⟩ := drop_next h2
          rw [g1]
          exact fun h => c3 ((hasPre_cons d l2).2 ((ne_byte 45 rfl).1 h))
      have e1 : memb k (b :: l) S = memb (k - 1) l (range S (sym (b.toNat : Int)) (sym (b.toNat : Int) + 1)) := by
        rw [memb_5 (by simp) (by simpa using hk) n1 c3, es0]; rfl
      have e2 : memF s f p = (memS s p, p + 1, true) := by
        rw [emF, memR, if_neg m1, if_neg m2, if_pos m3]
      rw [e1, setL_2 (by omega) hgo (by rw [e2]; simp), e2]
      have eS : memS s p = upd noSet (sym (b.toNat : Int)).toNat true := by unfold memS; rw [em0]
      rw [eS, Nat.add_sub_cancel]
      have ih := setL_memb (s := s) (rest := rest) (f := f) (n := n) (k := k - 1) (p := p + 1) (l := l) (S := range S (sym (b.toNat : Int)) (sym (b.toNat : Int) + 1)) (o := orN o (upd noSet (sym (b.toNat : Int)).toNat true) 37)
        h2 (fun x hx => h93 x (by simp [hx])) (by omega) (by omega) (by left; omega) (setEq_one hS (by omega))
      rcases ih with ⟨i1, i2⟩ | ⟨S', i1, i2, i3, i4⟩
      · exact .inl ⟨i1, i2⟩
      · exact .inr ⟨S', i1, i2, by rw [i3]; simp only [List.length_cons]; omega, i4⟩
end Go.Proofs.Ytjnjmnfacaakfaa
namespace Go.Proofs.Ytjnjmnfacaakfaa
open Go.Eng
theorem index_split {c : UInt8} : ∀ {t : List UInt8}, 0 ≤ Lib.indexByte t c → t = t.take (Lib.indexByte t c).toNat ++ c :: t.drop ((Lib.indexByte t c) + 1).toNat ∧ ∀ b ∈ t.take (Lib.indexByte t c).toNat, b ≠ c
  | [], h => by simp [Lib.indexByte] at h
  | b :: t, h => by
    have hge := Lib.indexByte_ge t c
    simp only [Lib.indexByte] at h ⊢
    by_cases hb : (b == c) = true
    · have : b = c := by simpa using hb
      subst this
      simp
    · rw [if_neg hb] at h ⊢
      by_cases hm : Lib.indexByte t c = -1
      · rw [hm] at h; simp at h
      · have h0 : 0 ≤ Lib.indexByte t c := by omega
        have hm' : ¬ (Lib.indexByte t c == -1) = true := by simpa using hm
        rw [if_neg hm']
        obtain ⟨i1, i2⟩ := index_split h0
        have e1 : (Lib.indexByte t c + 1).toNat = (Lib.indexByte t c).toNat + 1 := by omega
        have e2 : (Lib.indexByte t c + 1 + 1).toNat = (Lib.indexByte t c + 1).toNat + 1 := by omega
        rw [e2, List.drop_succ_cons, e1, List.take_succ_cons, List.cons_append]
        rw [e1] at i1
        refine ⟨by rw [← i1], fun x hx => ?_⟩
        rcases List.mem_cons.1 hx with rfl | hx
        · simpa using hb
        · exact i2 x hx
theorem index_none {c : UInt8} : ∀ {t : List UInt8}, ¬ 0 ≤ Lib.indexByte t c → ∀ b ∈ t, b ≠ c
  | [], _ => by simp
  | b :: t, h => by
    have hge := Lib.indexByte_ge t c
    simp only [Lib.indexByte] at h
    by_cases hb : (b == c) = true
    · rw [if_pos hb] at h; omega
    · rw [if_neg hb] at h
      have h0 : ¬ 0 ≤ Lib.indexByte t c := by
        intro h0
        have hm' : ¬ (Lib.indexByte t c == -1) = true := by simp; omega
        rw [if_neg hm'] at h
        omega
      intro x hx
      rcases List.mem_cons.1 hx with rfl | hx
      · simpa using hb
      · exact index_none h0 x hx
theorem setL_none {s : List UInt8} {f : Nat} : ∀ {n p : Nat} {o : Nat → Bool}, (∀ i, p ≤ i → s.getD i 0 ≠ 93) → (setL n s f p o).2.2 = false
  | 0, _, _, _ => rfl
  | n + 1, p, o, h => by
    by_cases hp : p < s.length
    · have hgo : ((p : Nat) : Int) < ((s.length : Nat) : Int) ∧ ((s.getD p 0).toNat : Int) ≠ 93 := ⟨by omega, fun e => h p (Nat.le_refl _) ((ne_byte 93 rfl).1 e)⟩
      by_cases hm : (memF s f p).2.2 = false
      · rw [setL_1 (by omega) hgo hm]
      · have hle := memF_le hp (eq_true_of_ne_false hm)
        rw [setL_2 (by omega) hgo hm]
        exact setL_none fun i hi => h i (by omega)
    · rw [setL_3 (by omega) (fun h => hp (by have := h.1; omega)), decide_eq_false (by omega)]
      rfl
/-- A class: fails in both, or is in both the same set, with the same behind it. -/
theorem class_R {s : List UInt8} {p : Nat} (hp : p ≤ s.length) : (classS (s.drop p) = none ∧ (setL (s.length + 1) s p p noSet).2.2 = false) ∨
    ∃ S q, classS (s.drop p) = some (S, q) ∧ (setL (s.length + 1) s p p noSet).2.2 = true ∧ (setL (s.length + 1) s p p noSet).2.1 ≤ s.length ∧ s.drop (setL (s.length + 1) s p p noSet).2.1 = q ∧ SetEq S (setL (s.length + 1) s p p noSet).1 := by
  by_cases h0 : 0 ≤ Lib.indexByte (s.drop p) 93
  · obtain ⟨hd, h93⟩ := index_split h0
    have ec : cutB (s.drop p) 93 = ((s.drop p).take (Lib.indexByte (s.drop p) 93).toNat, (s.drop p).drop ((Lib.indexByte (s.drop p) 93) + 1).toNat, true) := by unfold cutB; rw [if_pos h0]
    generalize (s.drop p).take (Lib.indexByte (s.drop p) 93).toNat = body at hd h93 ec
    generalize (s.drop p).drop ((Lib.indexByte (s.drop p) 93) + 1).toNat = rest at hd ec
    have hlen : (s.drop p).length = body.length + (rest.length + 1) := by rw [hd]; simp
    rw [List.length_drop] at hlen
    match body, hd, h93, ec, hlen with
    | [], hd, _, ec, hlen =>
      obtain ⟨hlt, g1, g2⟩ := drop_next hd
      refine .inl ⟨class_none0 (.inr (by rw [ec])), ?_⟩
      rw [setL_3 (by omega) (fun h => h.2 (by rw [g1]; rfl))]
      simp
    | b :: body, hd, h93, ec, hlen =>
      have hcl : ∀ x, classM (b :: body) = x → classS (s.drop p) = x.map fun S => (S, rest) := fun x hx => by
        unfold classS
        rw [ec, if_neg (by simp), hx]
      obtain ⟨hlt, g1, g2⟩ := drop_next hd
      simp only [List.length_cons] at hlen
      have fin : ∀ {k l S p' o n}, s.drop p' = l ++ 93 :: rest → (∀ b ∈ l, b ≠ 93) → l.length ≤ k → l.length < n → (p < p' ∨ p = p' ∧ ∃ b l', l = b :: l' ∧ b ≠ 45) → SetEq S o → memb k l S = classM (b :: body) → setL n s p p' o = setL (s.length + 1) s p p noSet → p' + l.length + rest.length + 1 = s.length →
          (classS (s.drop p) = none ∧ (setL (s.length + 1) s p p noSet).2.2 = false) ∨
          ∃ S q, classS (s.drop p) = some (S, q) ∧ (setL (s.length + 1) s p p noSet).2.2 = true ∧ (setL (s.length + 1) s p p noSet).2.1 ≤ s.length ∧ s.drop (setL (s.length + 1) s p p noSet).2.1 = q ∧ SetEq S (setL (s.length + 1) s p p noSet).1 := by
        intro k l S p' o n a1 a2 a3 a4 a5 a6 a7 a8 a9
        rcases setL_memb a1 a2 a3 a4 a5 a6 with ⟨i1, i2⟩ | ⟨S', i1, i2, i3, i4⟩
        · rw [a7] at i1
          rw [a8] at i2
          exact .inl ⟨by rw [hcl _ i1]; rfl, i2⟩
        · rw [a7] at i1
          rw [a8] at i2 i3 i4
          refine .inr ⟨S', rest, by rw [hcl _ i1]; rfl, i2, by rw [i3]; omega, ?_, i4⟩
          rw [i3, Nat.add_assoc, ← List.drop_drop, a1]
          simp
      by_cases h45 : b = 45
      · subst h45
        have e2 : memF s p p = (memS s p, p + 1, true) := by
          unfold memF memR
          have em : m0 s p = 36 := by unfold m0; rw [g1]; rfl
          rw [if_neg (by rw [em]; omega), if_pos em]
          simp
        have hgo : ((p : Nat) : Int) < ((s.length : Nat) : Int) ∧ ((s.getD p 0).toNat : Int) ≠ 93 := ⟨by omega, by rw [g1]; decide⟩
        refine fin (k := (45 :: body).length) (l := body) (S := upd noSet 36 true) (p' := p + 1) (o := orN noSet (memS s p) 37) (n := s.length) g2 (fun x hx => h93 x (by simp [hx])) (by simp) (by omega) (by left; omega) ?_ ?_ ?_ (by omega)
        · intro c hc
          unfold orN memS m0
          rw [if_pos hc, g1]
          rfl
        · unfold classM
          rw [if_pos (show (((45 :: body : List UInt8).getD 0 0).toNat : Nat) = 45 from rfl)]
          rfl
        · rw [setL_2 (n := s.length + 1) (by omega) hgo (by rw [e2]; simp), e2]; rfl
      · refine fin (k := (b :: body).length) (l := b :: body) (S := noSet) (p' := p) (o := noSet) (n := s.length + 1) hd h93 (Nat.le_refl _) (by simp; omega) (.inr ⟨rfl, b, body, rfl, h45⟩) (fun _ _ => rfl) ?_ rfl (by simp; omega)
        unfold classM
        rw [if_neg]
        show ¬ b.toNat = 45
        intro h
        exact h45 (UInt8.toNat_inj.1 h)
  · refine .inl ⟨class_none0 (.inl ?_), setL_none fun i hi => ?_⟩
    · unfold cutB; rw [if_neg h0]
    · by_cases hl : i < s.length
      · have := index_none h0 (s.getD i 0) (by
          rw [List.mem_iff_getElem?]
          refine ⟨i - p, ?_⟩
          rw [List.getElem?_drop, show p + (i - p) = i by omega, List.getD_eq_getElem?_getD, List.getElem?_eq_getElem hl]; rfl)
        exact this
      · rw [List.getD_eq_getElem?_getD, List.getElem?_eq_none (by omega)]; decide
theorem drop_getD {s : List UInt8} {p : Nat} : (s.drop p).getD 0 0 = s.getD p 0 := by
  rw [List.getD_eq_getElem?_getD, List.getD_eq_getElem?_getD, List.getElem?_drop, Nat.add_zero]
/-- A piece's set: fails in both, or is the same. -/
theorem set_R {s : List UInt8} {p : Nat} (hp : p < s.length) : (pSet (s.drop p) = none ∧ (setR s p).2.2 = false) ∨
    ∃ S q, pSet (s.drop p) = some (S, q) ∧ (setR s p).2.2 = true ∧ (setR s p).2.1 ≤ s.length ∧ s.drop (setR s p).2.1 = q ∧ SetEq S (setR s p).1 := by
  unfold pSet setR
  rw [drop_getD]
  by_cases h91 : ((s.getD p 0).toNat : Int) = 91
  · rw [if_pos h91, if_neg (by simpa using h91), List.drop_drop]
    exact class_R (by omega)
  · rw [if_neg h91, if_pos h91]
    have em : m0 s p = sym ((s.getD p 0).toNat : Int) := rfl
    by_cases h0 : 0 ≤ sym ((s.getD p 0).toNat : Int)
    · rw [if_pos h0, if_neg (by omega)]
      refine .inr ⟨_, _, rfl, rfl, by simp only; omega, by rw [List.drop_drop], fun c _ => rfl⟩
    · rw [if_neg h0, if_pos (by omega)]
      exact .inl ⟨rfl, rfl⟩
theorem moreB_iff : ∀ b : Fin 256, moreB (UInt8.ofNat b.val) = true ↔ ((((UInt8.ofNat b.val).toNat : Int) = 63 ∨ ((UInt8.ofNat b.val).toNat : Int) = 43) ∨ ((UInt8.ofNat b.val).toNat : Int) = 42) := by decide +kernel
theorem moreB_eq (b : UInt8) : moreB b = true ↔ (((b.toNat : Int) = 63 ∨ (b.toNat : Int) = 43) ∨ (b.toNat : Int) = 42) := by
  have := moreB_iff ⟨b.toNat, b.toNat_lt⟩
  simpa using this
theorem hasM_R {s : List UInt8} {q : Nat} {S : Nat → Bool} : pHas (some (S, s.drop q)) ↔ HasM s q := by
  unfold pHas HasM
  simp only [cRest, Option.isSome_some, true_and, drop_getD, moreB_eq]
  have : s.drop q ≠ [] ↔ ((q : Nat) : Int) < ((s.length : Nat) : Int) := by
    rw [Ne, List.drop_eq_nil_iff]; omega
  rw [this]
/-- The sign behind a piece, and what is behind it. -/
theorem more_R {s : List UInt8} {q : Nat} {S : Nat → Bool} : pMore (some (S, s.drop q)) = moR s q ∧ pRest (some (S, s.drop q)) = s.drop (nxR s q) := by
  unfold pMore pRest moR nxR
  by_cases h : HasM s q
  · rw [if_pos h, if_pos (hasM_R.2 h), if_pos h, if_pos (hasM_R.2 h)]
    simp only [cRest, drop_getD, List.drop_drop, and_self]
  · rw [if_neg h, if_neg (fun h' => h (hasM_R.1 h')), if_neg h, if_neg (fun h' => h (hasM_R.1 h'))]
    exact ⟨rfl, rfl⟩
/-- A place is a piece. -/
def PP (p : Place) (q : Piece) : Prop := p.fEnd = false ∧ p.fMore = q.More ∧ (q.More = 0 ∨ q.More = 42 ∨ q.More = 63) ∧ ∀ c : Nat, c < 37 → bitOf p.fSet (c : Int) = q.Set c
/-- A branch of places is one of pieces. -/
def BR (b : List Place) (q : List Piece) : Prop := ∃ body, b = body ++ [endP] ∧ Rel PP body q
theorem pp_of {S o : Nat → Bool} {m : Int} (hS : SetEq S o) (hm : m = 0 ∨ m = 42 ∨ m = 63) : PP { fSet := word64 S, fMore := m } { Set := o, More := m } :=
  ⟨rfl, rfl, hm, fun c hc => by rw [bitOf_word (by omega)]; exact hS c hc⟩
theorem branches_R {s : List UInt8} : ∀ {n k p : Nat} {ps : List Place} {cur : List Piece} {out : List (List Piece)}, s.length < n + p → s.length < k + p → p ≤ s.length → Rel PP ps cur →
    (brR n s p cur out = none ∧ parseB k ps (s.drop p) = none) ∨ ∃ bs bp, brR n s p cur out = some (out ++ bs) ∧ parseB k ps (s.drop p) = some bp ∧ Rel BR bp bs
  | 0, _, _, _, _, _, h, _, h', _ => by omega
  | _ + 1, 0, _, _, _, _, _, h, h', _ => by omega
  | n + 1, k + 1, p, ps, cur, out, hn, hk, hp, hR => by
    have hl := hR.length
    have e0 : ((cur.length : Nat) : Int) = 0 ↔ ps = [] := by rw [← List.length_eq_zero_iff]; omega
    by_cases hlt : p < s.length
    · have hne : s.drop p ≠ [] := by rw [Ne, List.drop_eq_nil_iff]; omega
      by_cases h124 : ((s.getD p 0).toNat : Int) = 124
      · by_cases hc : ps = []
        · refine .inl ⟨brR_1 (by omega) (by omega) h124 (e0.2 hc), ?_⟩
          rw [parseB, if_pos (.inr (by rw [drop_getD]; exact h124)), if_pos hc]
        · rw [brR_2 (by omega) (by omega) h124 (fun h => hc (e0.1 h)), parseB, if_pos (.inr (by rw [drop_getD]; exact h124)), if_neg hc, if_neg hne, List.drop_drop]
          rcases branches_R (s := s) (n := n) (k := k) (p := p + 1) (ps := []) (cur := []) (out := out ++ [cur]) (by omega) (by omega) (by omega) .nil with ⟨i1, i2⟩ | ⟨bs, bp, i1, i2, i3⟩
          · exact .inl ⟨i1, by rw [i2]; rfl⟩
          · exact .inr ⟨cur :: bs, (ps ++ [endP]) :: bp, by rw [Nat.add_sub_cancel, i1]; simp, by rw [i2]; rfl, .cons ⟨ps, rfl, hR⟩ i3⟩
      · have hr : ¬ (s.drop p = [] ∨ (((s.drop p).getD 0 0).toNat : Int) = 124) := by
          rw [not_or, drop_getD]; exact ⟨hne, h124⟩
        rcases set_R hlt with ⟨a1, a2⟩ | ⟨S, q, a1, a2, a3, a4, a5⟩
        · refine .inl ⟨brR_3 (by omega) (by omega) h124 a2, ?_⟩
          rw [parseB, if_neg hr, if_neg (by rw [a1]; simp)]
        · subst a4
          have hsl := setR_le hlt a2
          obtain ⟨b1, b2⟩ := more_R (s := s) (q := (setR s p).2.1) (S := S)
          have hnx := nxR_le (s := s) a3
          rw [brR_4 (by omega) (by omega) h124 (by rw [a2]; simp), parseB, if_neg hr, if_pos (by rw [a1]; rfl), a1, b1, b2, Nat.add_sub_cancel]
          have hmo : moR s (setR s p).2.1 = 43 ∨ moR s (setR s p).2.1 = 0 ∨ moR s (setR s p).2.1 = 42 ∨ moR s (setR s p).2.1 = 63 := by
            unfold moR
            split
            · rename_i h
              rcases h.2 with (h | h) | h <;> rw [h] <;> simp
            · simp
          by_cases hm : moR s (setR s p).2.1 = 43
          · rw [if_pos hm]
            have eA : addR cur (setR s p).1 (moR s (setR s p).2.1) = cur ++ [({ Set := (setR s p).1 } : Piece)] := by rw [addR, if_pos hm]
            have eT : moT (moR s (setR s p).2.1) = 42 := by rw [moT, if_pos hm]
            rw [eA, eT]
            exact branches_R (by omega) (by omega) (by omega) ((hR.snoc (pp_of a5 (.inl rfl))).snoc (pp_of a5 (.inr (.inl rfl))))
          · rw [if_neg hm]
            have eA : addR cur (setR s p).1 (moR s (setR s p).2.1) = cur := by rw [addR, if_neg hm]
            have eT : moT (moR s (setR s p).2.1) = moR s (setR s p).2.1 := by rw [moT, if_neg hm]
            rw [eA, eT]
            exact branches_R (by omega) (by omega) (by omega) (hR.snoc (pp_of a5 (hmo.resolve_left hm)))
    · have hd : s.drop p = [] := List.drop_of_length_le (by omega)
      by_cases hc : ps = []
      · refine .inl ⟨brR_5 (by omega) (by omega) (e0.2 hc), ?_⟩
        rw [parseB, if_pos (.inl hd), if_pos hc]
      · refine .inr ⟨[cur], [ps ++ [endP]], brR_6 (by omega) (by omega) (fun h => hc (e0.1 h)), ?_, .cons ⟨ps, rfl, hR⟩ .nil⟩
        rw [parseB, if_pos (.inl hd), if_neg hc, if_pos hd]
theorem branchesR_B (s : List UInt8) : (branchesR s = none ∧ branchesS s = none) ∨ ∃ bs bp, branchesR s = some bs ∧ branchesS s = some bp ∧ Rel BR bp bs := by
  have := branches_R (s := s) (n := s.length + 1) (k := s.length + 1) (p := 0) (ps := []) (cur := []) (out := []) (by omega) (by omega) (by omega) .nil
  exact this
end Go.Proofs.Ytjnjmnfacaakfaa
namespace Go.Eng
open Go.RowKit
/-- The row k is the value g k, with the block rb k of its own; it has len k elements of the type e, the values f k. -/
structure Rows (F : PHeap) (e : TypeId) (n : Nat) (g : Nat → Value) (rb : Nat → Nat) (len : Nat → Nat) (f : Nat → Nat → Value) (w : World) : Prop where
  row : ∀ k, k < n → RelO noF noG w (.arr e 1 (len k) (fun i => .p (.v (f k i)))) (g k)
  blk : ∀ k, k < n → blk (g k) = some (rb k)
  inj : ∀ j k, j < n → k < n → rb j = rb k → j = k
  out : ∀ k, k < n → F (rb k) = none
/-- What is at rest, and the rows as they are now. -/
def addW (F : PHeap) (n : Nat) (rb : Nat → Nat) (w : World) : PHeap := fun b =>
  if (List.range n).any (fun k => rb k == b) = true then (match w.heap[b]? with
    | some (.cells c _ _) => some c
    | _ => none) else F b
section
variable {F : PHeap} {e : TypeId} {n : Nat} {g : Nat → Value} {rb : Nat → Nat} {len : Nat → Nat} {f : Nat → Nat → Value} {w : World}
theorem any_rb {b : Nat} : (List.range n).any (fun k => rb k == b) = true ↔ ∃ k, k < n ∧ rb k = b := by
  simp [List.any_eq_true, List.mem_range]
theorem relO_cells {m : Nat} {f' : Nat → D} {v : Value} {r : Nat} {F' : PHeap} {γ' : Gm} (h : RelO F' γ' w (.arr e 1 m f') v) (hb : blk v = some r) : ∃ c cap, v = .slice (some ⟨r, 0, none⟩) m cap ∧ w.heap[r]? = some (.cells c e (0, 0)) ∧ m ≤ cap ∧ cap ≤ maxLen ∧ c.size = cap * 1 ∧
    ∀ i, i < m → RelD F' γ' (f' i) ((c.toList.drop (i * 1)).take 1) := by
  cases h with
  | arr0 => cases hb
  | @arr _ _ _ _ b cap c a1 a2 a3 a4 a5 =>
    simp only [Go.Eng.blk, Option.some.injEq] at hb
    subst hb
    exact ⟨c, cap, rfl, a1, a2, a3, a4, a5⟩
theorem Rows.cells (h : Rows F e n g rb len f w) {k : Nat} (hk : k < n) : ∃ c cap, g k = .slice (some ⟨rb k, 0, none⟩) (len k) cap ∧ w.heap[rb k]? = some (.cells c e (0, 0)) ∧ len k ≤ cap ∧ cap ≤ maxLen ∧ c.size = cap * 1 ∧
    ∀ i, i < len k → RelD noF noG (.p (.v (f k i))) ((c.toList.drop (i * 1)).take 1) := relO_cells (h.row k hk) (h.blk k hk)
theorem addW_row (h : Rows F e n g rb len f w) {k : Nat} (hk : k < n) {c T z} (hc : w.heap[rb k]? = some (.cells c T z)) : addW F n rb w (rb k) = some c := by
  unfold addW
  rw [if_pos (any_rb.2 ⟨k, hk, rfl⟩), hc]
theorem addW_old {b : Nat} (h : ∀ k, k < n → rb k ≠ b) : addW F n rb w b = F b := by
  unfold addW
  rw [if_neg]
  intro h'
  obtain ⟨k, h1, h2⟩ := any_rb.1 h'
  exact h k h1 h2
theorem addW_ge (h : Rows F e n g rb len f w) {b c} (hb : F b = some c) : addW F n rb w b = some c := by
  rw [addW_old]
  · exact hb
  · intro k hk e
    rw [← e, h.out k hk] at hb
    cases hb
theorem addW_sub (hs : Sub F w) : Sub (addW F n rb w) w := by
  intro b c hb
  unfold addW at hb
  split at hb
  · split at hb
    · rename_i c' T z hc
      cases hb
      exact ⟨T, z, hc⟩
    · cases hb
  · exact hs b c hb
/-- Rows at rest: a list of lists. -/
theorem rows_rest {α : Type} {en : α → Value} {d : α} {gr : List (List α)} {xv : Value} (h : Rows F e gr.length g rb (fun k => (gr.getD k []).length) (fun k i => en ((gr.getD k []).getD i d)) w)
    (hx : RelP F (.lst 1 gr.length (fun k => .v (g k))) [xv]) : RelP (addW F gr.length rb w) (eL (eL (fun x => .v (en x)) 1 d) 1 [] gr) [xv] := by
  unfold eL
  generalize hm : gr.length = m at hx
  cases hx with
  | lst0 => exact .lst0
  | @lst _ _ _ b off cap c a1 a2 a3 a4 =>
    subst hm
    refine .lst (addW_ge h a1) a2 a3 fun i hi => ?_
    have hi' : i < gr.length := hi
    have h1 := a4 i hi
    generalize (c.toList.drop (off + i * 1)).take 1 = cs at h1
    cases h1 with
    | v hone =>
      obtain ⟨c2, cap2, e1, e2, e3, e4, e5, e6⟩ := h.cells hi'
      rw [e1]
      refine .lst (addW_row h hi' e2) e3 (by simp only [Nat.zero_add]; omega) fun j hj => ?_
      have := e6 j hj
      rw [Nat.zero_add]
      cases this with
      | p this => exact this.mono (fun b c h => by cases h)
end
/-! ### Operations, with slots that stay -/
/-- No operation gives its result to one of these slots. -/
def keepsB (l : List Oper) (ks : List Nat) : Bool := l.all fun o => match o.dst with
  | some t => !(ks.any (Nat.beq t))
  | none => true
theorem keeps_put {o : Oper} {l : List Oper} {ks : List Nat} (h : keepsB (o :: l) ks = true) : keepsB l ks = true ∧ ∀ (a : Act) v t, t ∈ ks → (a.put o.dst v).tmps[t]? = a.tmps[t]? := by
  unfold keepsB at h
  simp only [List.all_cons, Bool.and_eq_true] at h
  refine ⟨h.2, fun a v t ht => put_other fun e => ?_⟩
  rw [e] at h
  simp only [Bool.not_eq_true', List.any_eq_false] at h
  exact absurd (Nat.beq_refl t) (by simpa using h.1 t ht)
section
variable {P : Program} {C : Cx} {F : PHeap} {γ : Gm} {H : List O} {w : World}
theorem runQ_keep {N : Nat} {ops : Array Oper} {hs : List (Nat × D)} {ks : List Nat} {Q : Exit → Act → World → Prop} {rest : List Oper} (hS : SLH C F γ H w) : ∀ {l : List Oper} {i : Nat} {E E' : Env} {a : Act} {vc}, SLE F γ E a → a.tmps.size = N → runQ P N ops H hs i l E = some (vc, E') → all vc → keepsB l ks = true →
    (∀ a' : Act, SLE F γ E' a' → a'.tmps.size = N → a'.defers = a.defers → (∀ t ∈ ks, a'.tmps[t]? = a.tmps[t]?) → wpList P ops Q rest a' w) → wpList P ops Q (l ++ rest) a w
  | [], i, E, E', a, vc, hE, hN, h, _, _, hk => by
    simp only [runQ, Option.some.injEq, Prod.mk.injEq] at h
    obtain ⟨_, rfl⟩ := h
    exact hk a hE hN rfl fun _ _ => rfl
  | o :: l, i, E, E', a, vc, hE, hN, h, hvc, hks, hk => by
    simp only [runQ] at h
    split at h
    · rename_i vc1 E1 h1
      split at h
      · rename_i vc2 E2 h2
        simp only [Option.some.injEq, Prod.mk.injEq] at h
        obtain ⟨rfl, rfl⟩ := h
        rw [all_append] at hvc
        obtain ⟨ks2, kp⟩ := keeps_put hks
        obtain ⟨v, hv, hE1⟩ := stepQ_sound hS hE hN h1 hvc.1
        have ih : wpList P ops Q (l ++ rest) (a.put o.dst v) w := runQ_keep hS hE1 (by rw [put_size, hN]) h2 hvc.2 ks2 (fun a' k1 k2 k3 k4 => hk a' k1 k2 (by rw [k3, put_defers]) fun t ht => (k4 t ht).trans (kp a v t ht))
        show wpList P ops Q (o :: (l ++ rest)) a w
        unfold wpList
        rcases hv with ⟨hw, hr⟩ | ⟨hw, rfl⟩
        · rw [if_pos hw]
          refine .inl ?_
          unfold Oper.wp
          rw [hr w (Keep.refl w)]
          exact ih
        · rw [if_neg (by rw [hw]; simp)]
          exact ih
      · cases h
    · cases h
end
section
variable {C : Cx} {Q : Exit → Act → World → Prop} {ops : Array Oper} {hs : List (Nat × D)} {ks : List Nat}
theorem run_keep : ∀ {l : List Oper} {i : Nat} {E E' : Env} {H H' : List O} {a : Act} {w : World} {vc} {rest : List Oper}, SL C E H a w → run C.P C.γ0.length C.N ops hs i l E H = some (vc, E', H') → all vc → keepsB l ks = true →
    (∀ a' w', SL C E' H' a' w' → (∀ t ∈ ks, a'.tmps[t]? = a.tmps[t]?) → wpList C.P ops Q rest a' w') → wpList C.P ops Q (l ++ rest) a w
  | [], i, E, E', H, H', a, w, vc, rest, hSL, h, _, _, hk => by
    simp only [run, Option.some.injEq, Prod.mk.injEq] at h
    obtain ⟨_, rfl, rfl⟩ := h
    exact hk a w hSL fun _ _ => rfl
  | o :: l, i, E, E', H, H', a, w, vc, rest, hSL, h, hvc, hks, hk => by
    simp only [run] at h
    split at h
    · rename_i vc1 E1 H1 h1
      split at h
      · rename_i vc2 E2 H2 h2
        simp only [Option.some.injEq, Prod.mk.injEq] at h
        obtain ⟨rfl, rfl, rfl⟩ := h
        rw [all_append] at hvc
        obtain ⟨⟨F, γ, hS, hE⟩, hN, hD⟩ := hSL
        obtain ⟨ks2, kp⟩ := keeps_put hks
        obtain ⟨v, w', F', γ', hgo, hS', hE'⟩ := step_sound (P := C.P) hS hE hN h1 hvc.1
        have ih : wpList C.P ops Q (l ++ rest) (a.put o.dst v) w' := run_keep (SL.mk' hS' hE' (by rw [put_size, hN]) (by rw [put_defers, hD])) h2 hvc.2 ks2 fun a' w'' k1 k2 => hk a' w'' k1 fun t ht => (k2 t ht).trans (kp a v t ht)
        show wpList C.P ops Q (o :: (l ++ rest)) a w
        unfold wpList
        rcases hgo with ⟨hw, hr | ⟨hr, rfl⟩⟩ | ⟨hw, rfl, rfl⟩
        · rw [if_pos hw]
          refine .inl ?_
          unfold Oper.wp
          rw [hr]; exact ih
        · rw [if_pos hw]
          refine .inl ?_
          unfold Oper.wp
          rw [hr]; exact ih
        · rw [if_neg (by rw [hw]; simp)]
          exact ih
      · cases h
    · cases h
end
/-! ### Slots whose data do not lie in memory -/
def scalD : D → Bool
  | .p (.v _) => true
  | .p (.s _) => true
  | _ => false
def scalE (E : Env) : Bool := E.all fun x => scalD x.2.2
theorem scal_rel {F F' : PHeap} {γ γ' : Gm} {d : D} {v : Value} (h : scalD d = true) (hr : RelV F γ d v) : RelV F' γ' d v := by
  unfold scalD at h
  split at h
  · cases hr with
    | many hm => cases hm
    | one _ hr =>
      cases hr with
      | p hr => cases hr with | v h1 => exact .one rfl (.p (.v h1))
  · cases hr with
    | many hm => cases hm
    | one _ hr =>
      cases hr with
      | p hr => cases hr; exact .one rfl (.p .s)
  · cases h
theorem env_mem : ∀ {E : Env} {t : Nat} {g d}, E.get t = some (g, d) → (t, g, d) ∈ E
  | [], _, _, _, h => by cases h
  | (u, g0, d0) :: E, t, g, d, h => by
    simp only [Env.get] at h
    cases hb : Nat.beq u t with
    | true =>
      rw [hb] at h
      simp only [cond_true, Option.some.injEq, Prod.mk.injEq] at h
      obtain ⟨rfl, rfl⟩ := h
      rw [Nat.eq_of_beq_eq_true hb]
      exact List.mem_cons_self
    | false =>
      rw [hb] at h
      exact List.mem_cons_of_mem _ (env_mem h)
theorem scalE_sle {F F' : PHeap} {γ γ' : Gm} {E : Env} {a : Act} (h : scalE E = true) (hE : SLE F γ E a) : SLE F' γ' E a := by
  intro t g d hg
  obtain ⟨h1, h2⟩ := hE t g d hg
  have hs := List.all_eq_true.1 h _ (env_mem hg)
  exact ⟨fun hon => let ⟨v, k1, k2⟩ := h1 hon; ⟨v, k1, scal_rel hs k2⟩, h2⟩
theorem env_app : ∀ {E E2 : Env} {t : Nat} {x}, (E ++ E2).get t = some x → E.get t = some x ∨ E2.get t = some x
  | [], _, _, _, h => .inr h
  | (u, g0, d0) :: E, E2, t, x, h => by
    simp only [List.cons_append, Env.get] at h ⊢
    cases hb : Nat.beq u t with
    | true => rw [hb] at h; exact .inl h
    | false => rw [hb] at h; exact env_app h
theorem sle_app {F : PHeap} {γ : Gm} {E E2 : Env} {a : Act} (h1 : SLE F γ E a) (h2 : SLE F γ E2 a) : SLE F γ (E ++ E2) a := by
  intro t g d hg
  rcases env_app hg with h | h
  · exact h1 t g d h
  · exact h2 t g d h
theorem sle_cons {F : PHeap} {γ : Gm} {E : Env} {a : Act} {t : Nat} {d : D} {v : Value} (hv : a.tmps[t]? = some v) (hr : RelV F γ d v) (h : SLE F γ E a) : SLE F γ ((t, none, d) :: E) a := by
  intro u g d0 hu
  simp only [Env.get] at hu
  cases hb : Nat.beq t u with
  | true =>
    rw [hb] at hu
    simp only [cond_true, Option.some.injEq, Prod.mk.injEq] at hu
    obtain ⟨rfl, rfl⟩ := hu
    rw [← Nat.eq_of_beq_eq_true hb]
    exact ⟨fun _ => ⟨v, hv, hr⟩, fun hn => absurd trivial hn⟩
  | false => rw [hb] at hu; exact h u g d0 hu
theorem sle_kept {F : PHeap} {γ : Gm} {E E2 : Env} {a a' : Act} {ks : List Nat} (h : proj E ks = some E2) (hk : ∀ t ∈ ks, a'.tmps[t]? = a.tmps[t]?) (hE : SLE F γ E a) : SLE F γ E2 a' := by
  have mem : ∀ {ks : List Nat} {E2 : Env} {t g d}, proj E ks = some E2 → E2.get t = some (g, d) → t ∈ ks := by
    intro ks
    induction ks with
    | nil =>
      intro E2 t g d h hg
      simp only [proj, Option.some.injEq] at h
      subst h; cases hg
    | cons u ks ih =>
      intro E2 t g d h hg
      simp only [proj] at h
      split at h
      · rename_i d0 r h1 h2
        simp only [Option.some.injEq] at h
        subst h
        simp only [Env.get] at hg
        cases hb : Nat.beq u t with
        | true => rw [Nat.eq_of_beq_eq_true hb]; exact List.mem_cons_self
        | false => rw [hb] at hg; exact List.mem_cons_of_mem _ (ih h2 hg)
      · cases h
  intro t g d hg
  obtain ⟨h1, h2⟩ := hE t g d (proj_get h hg)
  have hm := hk t (mem h hg)
  exact ⟨fun hon => let ⟨v, k1, k2⟩ := h1 hon; ⟨v, hm.trans k1, k2⟩, fun hon => hm.trans (h2 hon)⟩
/-! ### Rules -/
section
variable {P : Program} {N : Nat} {F : PHeap} {E E' E2 E3 : Env} {G G' : World → Prop} {Q : Exit → Act → World → Prop}
/-- A region that reads, where a slot's data are said otherwise for the while (with more at rest: the rows as they are). -/
theorem tqg_read {l : List Oper} {id : Nat} {vc} (t1 : Nat) (d0 d1 : D) (F1 : World → PHeap) (hs : List (Nat × D)) (ts ks : List Nat) (h0 : E.get t1 = some (none, d0)) (h : regQ P N l [] hs ts ((t1, none, d1) :: E) = some (vc, E')) (hvc : all vc) (hsc : scalE E' = true)
    (hkp : keepsB l ks = true) (hp : proj E ks = some E2) (hF : ∀ w, Sub F w → G w → Sub (F1 w) w ∧ (∀ b c, F b = some c → F1 w b = some c) ∧ ∀ v, RelV F noG d0 v → RelV (F1 w) noG d1 v)
    (hk : ∀ a w, QS N F (E' ++ E2) G a w → Q .normal a w) : TrQ P N F (.region id l.toArray false) E G Q := by
  intro a w hS
  obtain ⟨f1, f2, f3⟩ := hF w hS.s hS.g
  unfold regQ at h
  split at h
  · rename_i vc1 E1 h1
    split at h
    · rename_i E4 h4
      simp only [Option.some.injEq, Prod.mk.injEq] at h
      obtain ⟨rfl, rfl⟩ := h
      refine wp_region_lit ?_
      obtain ⟨v, v1, v2⟩ := (hS.e _ _ _ h0).1 trivial
      have hE1 : SLE (F1 w) noG ((t1, none, d1) :: E) a := sle_cons v1 (f3 v v2) (sle_mono hS.e f2 fun _ _ x => x)
      have := runQ_keep (P := P) (ks := ks) (rest := []) (Q := Q) (qs_slh (P := P) (N := N) f1) hE1 hS.n h1 hvc hkp fun a' k1 k2 k3 k4 => (show Q .normal a' w from hk a' w ⟨sle_app (scalE_sle hsc (sle_proj h4 k1)) (sle_kept hp k4 hS.e), k2, k3.trans hS.d, hS.s, hS.g⟩)
      rw [List.append_nil] at this
      exact this
    · cases h
  · cases h
/-- What a write to the row k leaves as it was. -/
structure Wrote (r : Nat) (w w' : World) : Prop where
  os : w'.os = w.os
  tape : w'.tape = w.tape
  output : w'.output = w.output
  size : w.heap.size ≤ w'.heap.size
  block : ∀ b, b < w.heap.size → b ≠ r → w'.heap[b]? = w.heap[b]?
def rowO (e : TypeId) (m : Nat) (f : Nat → Value) : O := .arr e 1 m (fun i => .p (.v (f i)))
theorem slh_row {e n g rb len f w} (hR : Rows F e n g rb len f w) (hs : Sub F w) {k : Nat} (hk : k < n) : SLH ⟨P, w, F, [g k], N⟩ F (fun i => if i = 0 then some (g k) else none) [rowO e (len k) (f k)] w where
  sub := hs
  ext := fun _ _ => rfl
  top := fun i hi => by
    simp only [List.length_cons, List.length_nil] at hi
    rw [if_neg (by omega)]
  free := fun i hi => by
    cases i with
    | zero => cases hi
    | succ i => simp at hi
  obj := fun i o v ho hv => by
    cases i with
    | zero =>
      cases ho
      cases hv
      exact (hR.row k hk).mono (fun _ _ h => by cases h) (fun _ _ h => by cases h)
    | succ i => simp at ho
  apart := fun i o v b ho _ hv hb => by
    cases i with
    | zero =>
      cases hv
      rw [hR.blk k hk] at hb
      cases hb
      obtain ⟨c, cap, _, h2, _⟩ := hR.cells hk
      exact ⟨hR.out k hk, (Array.getElem?_eq_some_iff.1 h2).1, fun h => by simp at h⟩
    | succ i => simp at ho
  given := fun i hi => by
    simp only [List.length_cons, List.length_nil] at hi
    obtain rfl : i = 0 := by omega
    rfl
  dis := fun i j o o' v v' b h1 h2 hij _ _ _ _ _ => by
    cases i with
    | zero =>
      cases j with
      | zero => exact absurd rfl hij
      | succ j => simp at h2
    | succ i => simp at h1
  os := rfl
  tape := rfl
  output := rfl
  grows := Nat.le_refl _
  block := fun _ _ _ => rfl
theorem Rows.wrote {e n g rb len f w w'} (hR : Rows F e n g rb len f w) {k : Nat} (hk : k < n) {f' : Nat → Value} (hw : Wrote (rb k) w w') (h : RelO noF noG w' (rowO e (len k) f') (g k)) : Rows F e n g rb len (upd f k f') w' where
  row := fun j hj => by
    unfold upd
    by_cases hjk : j = k
    · subst hjk
      rw [if_pos rfl]; exact h
    · rw [if_neg hjk]
      refine (hR.row j hj).same fun b hb => ?_
      rw [hR.blk j hj] at hb
      cases hb
      obtain ⟨c, cap, _, h2, _⟩ := hR.cells hj
      exact hw.block _ (Array.getElem?_eq_some_iff.1 h2).1 fun e => hjk (hR.inj j k hj hk e)
  blk := hR.blk
  inj := hR.inj
  out := hR.out
theorem sub_wrote {e n g rb len f w w'} (hR : Rows F e n g rb len f w) {k : Nat} (hk : k < n) (hs : Sub F w) (hw : Wrote (rb k) w w') : Sub F w' := fun b c hb => by
  obtain ⟨T, fz, h1⟩ := hs b c hb
  refine ⟨T, fz, ?_⟩
  rw [hw.block b (Array.getElem?_eq_some_iff.1 h1).1 fun e => ?_]
  · exact h1
  · rw [e, hR.out k hk] at hb
    cases hb
theorem relO_scal {F' : PHeap} {γ' : Gm} {w : World} {e m : Nat} {f2 : Nat → D} {f' : Nat → Value} {v : Value} (h : RelO F' γ' w (.arr e 1 m f2) v) (hf : ∀ i, i < m → f2 i = .p (.v (f' i))) : RelO noF noG w (rowO e m f') v := by
  cases h with
  | arr0 => exact .arr0
  | arr a1 a2 a3 a4 a5 =>
    refine .arr a1 a2 a3 a4 fun i hi => ?_
    have := a5 i hi
    rw [hf i hi] at this
    generalize (Array.toList _ |>.drop (i * 1)).take 1 = cs at this ⊢
    cases this with
    | p this => cases this with | v h => exact .p (.v h)
/-- A region that writes to an element of a row. -/
theorem tqg_store {l : List Oper} {id : Nat} {vc1 vc2 E1 f2} {e n g rb len f} {f' : Nat → Value} (n1 tR k : Nat) (hs hs2 : List (Nat × D)) (us ks : List Nat)
    (h1 : (run P 1 N l.toArray hs 0 (l.take n1) E [rowO e (len k) (f k)]).bind (fun q => (proj q.2.1 us).map fun x => (q.1, x, q.2.2)) = some (vc1, E1, [rowO e (len k) (f k)])) (hvc1 : all vc1) (hR : E1.get tR = some (none, .p (.v (g k)))) (hkn : k < n)
    (h2 : (run P 1 N l.toArray hs2 n1 (l.drop n1) ((tR, none, .own 0) :: E1) [rowO e (len k) (f k)]).map (fun q => (q.1, q.2.2)) = some (vc2, [.arr e 1 (len k) f2])) (hvc2 : all vc2) (hf2 : ∀ i, i < len k → f2 i = .p (.v (f' i)))
    (hkp : keepsB l ks = true) (hp : proj E ks = some E3) (hG : ∀ w, G w → Rows F e n g rb len f w)
    (hG' : ∀ w w', G w → Wrote (rb k) w w' → Sub F w' → Rows F e n g rb len (upd f k f') w' → G' w') (hk : ∀ a w, QS N F E3 G' a w → Q .normal a w) : TrQ P N F (.region id l.toArray false) E G Q := by
  intro a w hS
  have g1 := hS.s
  have g2 := hG w hS.g
  cases hr1 : run P 1 N l.toArray hs 0 (l.take n1) E [rowO e (len k) (f k)] with
  | none => rw [hr1] at h1; cases h1
  | some q1 =>
  obtain ⟨va, Ea, Ha⟩ := q1
  rw [hr1] at h1
  simp only [Option.bind_some, Option.map_eq_some_iff, Prod.mk.injEq] at h1
  obtain ⟨E1', hpj, rfl, rfl, rfl⟩ := h1
  cases hr2 : run P 1 N l.toArray hs2 n1 (l.drop n1) ((tR, none, .own 0) :: E1') [rowO e (len k) (f k)] with
  | none => rw [hr2] at h2; cases h2
  | some q2 =>
  obtain ⟨vb, Eb, Hb⟩ := q2
  rw [hr2] at h2
  simp only [Option.map_some, Option.some.injEq, Prod.mk.injEq] at h2
  obtain ⟨rfl, rfl⟩ := h2
  refine wp_region_lit ?_
  have hkp2 : keepsB (l.take n1) ks = true ∧ keepsB (l.drop n1) ks = true := by
    have : keepsB (l.take n1 ++ l.drop n1) ks = true := by rw [List.take_append_drop]; exact hkp
    unfold keepsB at this ⊢
    rw [List.all_append, Bool.and_eq_true] at this
    exact this
  have hSL : SL ⟨P, w, F, [g k], N⟩ E [rowO e (len k) (f k)] a w := ⟨⟨F, _, slh_row g2 g1 hkn, sle_mono hS.e (fun _ _ h => h) (fun _ _ h => by cases h)⟩, hS.n, hS.d⟩
  have key : wpList P l.toArray Q (l.take n1 ++ (l.drop n1 ++ [])) a w := by
    refine run_keep (C := ⟨P, w, F, [g k], N⟩) (ks := ks) hSL hr1 hvc1 hkp2.1 fun a1 w1 hS1 hk1 => ?_
    have hS1' : SL ⟨P, w, F, [g k], N⟩ ((tR, none, .own 0) :: E1') [rowO e (len k) (f k)] a1 w1 := by
      obtain ⟨⟨F1, γ1, s1, s2⟩, s3, s4⟩ := hS1
      obtain ⟨v, v1, v2⟩ := (s2 _ _ _ (proj_get hpj hR)).1 trivial
      have hv := v_val v2
      subst hv
      have hg0 : γ1 0 = some (g k) := s1.given 0 (by simp)
      have hone : (g k).oneCell' = true := by
        obtain ⟨c, cap, e1, _⟩ := g2.cells hkn
        rw [e1]; rfl
      exact ⟨⟨F1, γ1, s1, sle_cons v1 (.one rfl (.own hg0 hone)) (sle_proj hpj s2)⟩, s3, s4⟩
    refine run_keep (C := ⟨P, w, F, [g k], N⟩) (ks := ks) hS1' hr2 hvc2 hkp2.2 fun a2 w2 hS2 hk2 => (show Q .normal a2 w2 from ?_)
    obtain ⟨⟨F2, γ2, s1, s2⟩, s3, s4⟩ := hS2
    have hW : Wrote (rb k) w w2 := ⟨s1.os, s1.tape, s1.output, s1.grows, fun b hb hne => s1.block b hb fun v hv => by
      simp only [List.mem_singleton] at hv
      subst hv
      rw [g2.blk k hkn]
      exact fun e => hne (Option.some.inj e).symm⟩
    have hO := relO_scal (s1.obj 0 _ (g k) rfl (s1.given 0 (by simp))) hf2
    have hsub := sub_wrote g2 hkn g1 hW
    exact hk a2 w2 ⟨sle_kept hp (fun t ht => (hk2 t ht).trans (hk1 t ht)) hS.e, s3, s4, hsub, hG' w w2 hS.g hW hsub (g2.wrote hkn hW hO)⟩
  rw [List.append_nil, List.take_append_drop] at key
  exact key
end
end Go.Eng
namespace Go.Eng
open Go.RowKit
section
variable {P : Program} {N : Nat} {F F2 : PHeap} {E E' E2 : Env} {G G2 : World → Prop} {Q : Exit → Act → World → Prop}
/-- A call: what is behind it is shown for whatever it hands back. -/
theorem tq_callF {l : List Oper} {id : Nat} {vc1 E1} {o : Oper} {f : FuncId} {args : Array Operand} {ts : Array TypeId} {t : Nat} (n : Nat) (hs : List (Nat × D)) (us : List Nat)
    (h1 : (runQ P N l.toArray [] hs 0 (l.take n) E).bind (fun q => (proj q.2 us).map fun e => (q.1, e)) = some (vc1, E1)) (hvc1 : all vc1) (hn : l[n]? = some o) (ho : o.op = .call ⟨.value (.func f), args, ts⟩) (hgd : o.guard = none) (hd : o.dst = some t) (hf : callable P f = true)
    (R : Value → World → Prop) (hcall : ∀ a w, QS N F E1 G a w → Calls P f (args.map a.eval) w fun e w' => ∃ v, e = .returned v ∧ R v w')
    (hk : ∀ a v w', SLE F noG E1 a → a.tmps.size = N → a.defers = [] → R v w' → wpList P l.toArray Q (l.drop (n + 1)) (a.put (some t) v) w') : TrQ P N F (.region id l.toArray false) E G Q := by
  intro a w hS
  cases hr : runQ P N l.toArray [] hs 0 (l.take n) E with
  | none => rw [hr] at h1; cases h1
  | some q =>
  obtain ⟨va, Ea⟩ := q
  rw [hr] at h1
  simp only [Option.bind_some, Option.map_eq_some_iff, Prod.mk.injEq] at h1
  obtain ⟨E1', hpj, rfl, rfl⟩ := h1
  refine wp_region_lit ?_
  have hdr : l.drop n = o :: l.drop (n + 1) := by
    obtain ⟨hlt, hget⟩ := List.getElem?_eq_some_iff.1 hn
    rw [List.drop_eq_getElem_cons hlt, hget]
  have key : wpList P l.toArray Q (l.take n ++ l.drop n) a w := by
    refine runQ_keep (P := P) (ks := []) (qs_slh (P := P) (N := N) hS.s) hS.e hS.n hr hvc1 (by
      unfold keepsB
      rw [List.all_eq_true]
      intro x _
      split <;> rfl) fun a' k1 k2 k3 _ => ?_
    have hS' : QS N F E1' G a' w := ⟨sle_proj hpj k1, k2, k3.trans hS.d, hS.s, hS.g⟩
    rw [hdr]
    have hw : Region.wanted o (yielded l.toArray a'.tmps) = true := by simp [Region.wanted, hgd]
    unfold wpList
    rw [if_pos hw]
    refine .inl ?_
    unfold Oper.wp
    rw [resolve_call ho rfl hf w]
    refine (hcall a' w hS').mono ?_
    rintro e w' ⟨v, rfl, hR⟩
    have := hk a' v w' hS'.e k2 hS'.d hR
    rw [← hd] at this
    exact this
  rw [List.take_append_drop] at key
  exact key
/-- .. operations behind it that only read. -/
theorem suffix_q {l : List Oper} {n : Nat} {vc} {E1 : Env} {t : Nat} {d : D} {a : Act} {v : Value} {w : World} (hs : List (Nat × D)) (us : List Nat) (h : (runQ P N l.toArray [] hs (n + 1) (l.drop (n + 1)) ((t, none, d) :: E1)).bind (fun q => (proj q.2 us).map fun e => (q.1, e)) = some (vc, E')) (hvc : all vc)
    (hdk : dstOk N (some t) = true) (hE : SLE F noG E1 a) (hN : a.tmps.size = N) (hD : a.defers = []) (hF : ∀ b c, F b = some c → F2 b = some c) (hsub : Sub F2 w) (hv : RelV F2 noG d v) (hG : G2 w)
    (hk : ∀ a w, QS N F2 E' G2 a w → Q .normal a w) : wpList P l.toArray Q (l.drop (n + 1)) (a.put (some t) v) w := by
  cases hr : runQ P N l.toArray [] hs (n + 1) (l.drop (n + 1)) ((t, none, d) :: E1) with
  | none => rw [hr] at h; cases h
  | some q =>
  obtain ⟨va, Ea⟩ := q
  rw [hr] at h
  simp only [Option.bind_some, Option.map_eq_some_iff, Prod.mk.injEq] at h
  obtain ⟨E1', hpj, rfl, rfl⟩ := h
  have hE2 : SLE F2 noG ((t, none, d) :: E1) (a.put (some t) v) := sle_put (dst := some t) (e := none) (sle_mono hE hF fun _ _ x => x) hN hdk (fun _ => hv) (fun h => absurd trivial h)
  exact runQ_plain (qs_slh (P := P) (N := N) hsub) hE2 (by rw [put_size]; exact hN) hr hvc fun a' k1 k2 k3 => hk a' w ⟨sle_proj hpj k1, k2, (k3.trans put_defers).trans hD, hsub, hG⟩
end
/-! ### New slices of slices -/
/-- What is at rest, and the slice's own block. -/
def addO (F : PHeap) (x : Value) (w : World) : PHeap := fun b => if blk x = some b then (match w.heap[b]? with
  | some (.cells c _ _) => some c
  | _ => none) else F b
/-- A slice of n rows, all of them new since w. -/
structure NewGrid (F : PHeap) (w w' : World) (x : Value) (T e n : Nat) (g : Nat → Value) (rb : Nat → Nat) (len : Nat → Nat) (f : Nat → Nat → Value) : Prop where
  grew : Grew w w'
  sub : Sub F w'
  rows : Rows F e n g rb len f w'
  new : ∀ k, k < n → w.heap.size ≤ rb k
  outer : RelO noF noG w' (.arr T 1 n (fun j => .p (.v (g j)))) x
  apart : ∀ b, blk x = some b → w.heap.size ≤ b ∧ F b = none ∧ ∀ k, k < n → rb k ≠ b
section
variable {F : PHeap} {w w' : World} {x : Value} {T e n : Nat} {g : Nat → Value} {rb : Nat → Nat} {len : Nat → Nat} {f : Nat → Nat → Value}
theorem NewGrid.ge (h : NewGrid F w w' x T e n g rb len f) : ∀ b c, F b = some c → addO F x w' b = some c := by
  intro b c hb
  unfold addO
  rw [if_neg]
  · exact hb
  · intro hx
    rw [(h.apart b hx).2.1] at hb
    cases hb
theorem NewGrid.sub' (h : NewGrid F w w' x T e n g rb len f) : Sub (addO F x w') w' := by
  intro b c hb
  unfold addO at hb
  split at hb
  · split at hb
    · rename_i c' T z hc
      cases hb
      exact ⟨T, z, hc⟩
    · cases hb
  · exact h.sub b c hb
theorem NewGrid.rows' (h : NewGrid F w w' x T e n g rb len f) : Rows (addO F x w') e n g rb len f w' where
  row := h.rows.row
  blk := h.rows.blk
  inj := h.rows.inj
  out := fun k hk => by
    unfold addO
    rw [if_neg]
    · exact h.rows.out k hk
    · intro hx
      exact (h.apart _ hx).2.2 k hk rfl
theorem NewGrid.rest (h : NewGrid F w w' x T e n g rb len f) : RelP (addO F x w') (.lst 1 n (fun k => .v (g k))) [x] := by
  have h1 := h.outer
  have h2 : ∀ r, blk x = some r → ∀ c T' z, w'.heap[r]? = some (.cells c T' z) → addO F x w' r = some c := fun r hr c T' z hc => by
    unfold addO
    rw [if_pos hr, hc]
  cases h1 with
  | arr0 => exact .lst0
  | @arr _ _ _ _ b cap c a1 a2 a3 a4 a5 =>
    refine .lst (h2 b rfl c _ _ a1) a2 (by omega) fun i hi => ?_
    have := a5 i hi
    rw [Nat.zero_add]
    cases this with
    | p this => exact this.mono fun b c h => by cases h
/-- Only rows have been written since w. -/
structure WroteAll (n : Nat) (rb : Nat → Nat) (w w' : World) : Prop where
  os : w'.os = w.os
  tape : w'.tape = w.tape
  output : w'.output = w.output
  size : w.heap.size ≤ w'.heap.size
  block : ∀ b, b < w.heap.size → (∀ k, k < n → rb k ≠ b) → w'.heap[b]? = w.heap[b]?
theorem WroteAll.refl (n : Nat) (rb : Nat → Nat) (w : World) : WroteAll n rb w w := ⟨rfl, rfl, rfl, Nat.le_refl _, fun _ _ _ => rfl⟩
theorem WroteAll.next {w0 : World} {k : Nat} (h : WroteAll n rb w0 w) (hk : k < n) (h' : Wrote (rb k) w w') : WroteAll n rb w0 w' :=
  ⟨h'.os.trans h.os, h'.tape.trans h.tape, h'.output.trans h.output, Nat.le_trans h.size h'.size, fun b hb hne => (h'.block b (Nat.lt_of_lt_of_le hb h.size) fun e => hne k hk e.symm).trans (h.block b hb hne)⟩
theorem WroteAll.grew {w0 : World} (h0 : Grew w0 w) (hn : ∀ k, k < n → w0.heap.size ≤ rb k) (h : WroteAll n rb w w') : Grew w0 w' :=
  ⟨h.os.trans h0.os, h.tape.trans h0.tape, h.output.trans h0.output, Nat.le_trans h0.size h.size, fun b hb => (h.block b (Nat.lt_of_lt_of_le hb h0.size) fun k hk e => by have := hn k hk; omega).trans (h0.block b hb)⟩
end
/-! ### Rows as lists -/
/-- n rows, of these lengths, as X says. -/
def GL (n : Nat) (len : Nat → Nat) (X : Nat → Nat → Bool) : List (List Bool) := (List.range n).map fun k => (List.range (len k)).map (X k)
section
variable {n : Nat} {len : Nat → Nat} {X : Nat → Nat → Bool}
theorem GL_len : (GL n len X).length = n := by simp [GL]
theorem GL_row {k : Nat} (hk : k < n) : (GL n len X).getD k [] = (List.range (len k)).map (X k) := by
  simp [GL, List.getD_eq_getElem?_getD, List.getElem?_map, List.getElem?_range hk]
theorem GL_rlen {k : Nat} (hk : k < n) : ((GL n len X).getD k []).length = len k := by
  rw [GL_row hk]; simp
theorem GL_get {k i : Nat} (hk : k < n) (hi : i < len k) : ((GL n len X).getD k []).getD i false = X k i := by
  rw [GL_row hk]
  simp [List.getD_eq_getElem?_getD, List.getElem?_map, List.getElem?_range hi]
/-- Rows of bools in memory. -/
abbrev BRows (F : PHeap) (n : Nat) (g : Nat → Value) (rb : Nat → Nat) (len : Nat → Nat) (X : Nat → Nat → Bool) (w : World) : Prop := Rows F 4 n g rb len (fun k i => .bool (X k i)) w
theorem brows_rest {F : PHeap} {g rb w} {xv : Value} (h : BRows F n g rb len X w) (hx : RelP F (.lst 1 n (fun k => .v (g k))) [xv]) : RelP (addW F n rb w) (eL (eL eB 1 false) 1 [] (GL n len X)) [xv] := by
  have h' : Rows F 4 (GL n len X).length g rb (fun k => ((GL n len X).getD k []).length) (fun k i => .bool (((GL n len X).getD k []).getD i false)) w := by
    rw [GL_len]
    refine ⟨fun k hk => ?_, h.blk, h.inj, h.out⟩
    have h1 := h.row k hk
    rw [GL_rlen hk]
    cases hg : g k with
    | slice a m cap =>
      rw [hg] at h1
      exact relO_scal h1 fun i hi => by
        show D.p (.v (.bool (X k i))) = D.p (.v (.bool (((GL n len X).getD k []).getD i false)))
        rw [GL_get hk hi]
    | _ => have := h.blk k hk; rw [hg] at this; first | (cases this; done) | (obtain ⟨c, cap, e1, _⟩ := h.cells hk; rw [hg] at e1; cases e1)
  have := rows_rest (en := Value.bool) (d := false) (gr := GL n len X) h' (by rw [GL_len]; exact hx)
  rw [GL_len] at this
  exact this
theorem read_grid {F : PHeap} {g rb w} (hs : Sub F w) (h : BRows F n g rb len X w) : Sub (addW F n rb w) w ∧ (∀ b c, F b = some c → addW F n rb w b = some c) ∧ ∀ v, RelV F noG (.p (.lst 1 n (fun k => .v (g k)))) v → RelV (addW F n rb w) noG (.p (eL (eL eB 1 false) 1 [] (GL n len X))) v :=
  ⟨addW_sub hs, fun _ _ => addW_ge h, fun v hv => by
    cases hv with
    | many hm => cases hm
    | one _ hv => cases hv with | p hv => exact .one rfl (.p (brows_rest h hv))⟩
theorem BRows.set {F : PHeap} {g rb w} {k i : Nat} (h : Rows F 4 n g rb len (upd (fun k i => .bool (X k i)) k (fun j => .bool (upd (X k) i true j))) w) : BRows F n g rb len (upd X k (upd (X k) i true)) w := by
  have e : upd (fun k i => Value.bool (X k i)) k (fun j => .bool (upd (X k) i true j)) = fun k' j => .bool (upd X k (upd (X k) i true) k' j) := by
    funext k' j
    unfold upd
    by_cases hk : k' = k
    · rw [if_pos hk, if_pos hk]
    · rw [if_neg hk, if_neg hk]
  rw [e] at h
  exact h
end
end Go.Eng
namespace Go.Proofs.Ytjnjmnfacaakfaa
open Go.Eng
def lenB (b : List (List Piece)) (k : Nat) : Nat := (b.getD k []).length + 1
/-- A row that is closed up to i. -/
def rowCl (p : List Piece) (S : Nat → Bool) : Nat → Nat → Bool
  | 0 => S
  | i + 1 => if rowCl p S i i = true ∧ (p.getD i dPiece).More ≠ 0 then upd (rowCl p S i) (i + 1) true else rowCl p S i
/-- Rows that are closed: those below k, and of row k what is below i. -/
def clX (b : List (List Piece)) (X : Nat → Nat → Bool) (k i : Nat) : Nat → Nat → Bool := fun j => if j < k then rowCl (b.getD j []) (X j) (b.getD j []).length else if j = k then rowCl (b.getD k []) (X k) i else X j
theorem clX_at (b : List (List Piece)) (X : Nat → Nat → Bool) (k i : Nat) : clX b X k i k = rowCl (b.getD k []) (X k) i := by
  unfold clX
  rw [if_neg (Nat.lt_irrefl k), if_pos rfl]
theorem clX_0 (b : List (List Piece)) (X : Nat → Nat → Bool) : clX b X 0 0 = X := by
  funext j
  unfold clX
  by_cases h : j = 0
  · subst h; rw [if_neg (by omega), if_pos rfl]; rfl
  · rw [if_neg (by omega), if_neg h]
theorem clX_row (b : List (List Piece)) (X : Nat → Nat → Bool) (k : Nat) : clX b X k (b.getD k []).length = clX b X (k + 1) 0 := by
  funext j
  unfold clX
  by_cases h : j < k
  · rw [if_pos h, if_pos (by omega)]
  · by_cases h1 : j = k
    · subst h1; rw [if_neg h, if_pos rfl, if_pos (by omega)]
    · rw [if_neg h, if_neg h1, if_neg (by omega)]
      by_cases h2 : j = k + 1
      · subst h2; rw [if_pos rfl]; rfl
      · rw [if_neg h2]
theorem upd_row {X Y : Nat → Nat → Bool} {k : Nat} {r : Nat → Bool} (h : ∀ j, j ≠ k → X j = Y j) (h1 : r = Y k) : upd X k r = Y := by
  funext j
  unfold upd
  by_cases hj : j = k
  · subst hj; rw [if_pos rfl, h1]
  · rw [if_neg hj, h j hj]
theorem clX_set {b : List (List Piece)} {X : Nat → Nat → Bool} {k i : Nat} (h : rowCl (b.getD k []) (X k) i i = true ∧ ((b.getD k []).getD i dPiece).More ≠ 0) : upd (clX b X k i) k (upd (clX b X k i k) (i + 1) true) = clX b X k (i + 1) := by
  refine upd_row (fun j hj => ?_) ?_
  · unfold clX
    by_cases h1 : j < k
    · rw [if_pos h1, if_pos h1]
    · rw [if_neg h1, if_neg h1, if_neg hj, if_neg hj]
  · rw [clX_at, clX_at, rowCl, if_pos h]
theorem clX_no {b : List (List Piece)} {X : Nat → Nat → Bool} {k i : Nat} (h : ¬ (rowCl (b.getD k []) (X k) i i = true ∧ ((b.getD k []).getD i dPiece).More ≠ 0)) : clX b X k i = clX b X k (i + 1) := by
  funext j
  unfold clX
  rw [rowCl, if_neg h]
def closedX (b : List (List Piece)) (X : Nat → Nat → Bool) : Nat → Nat → Bool := clX b X b.length 0
def CG (F : PHeap) (b : List (List Piece)) (g : Nat → Value) (rb : Nat → Nat) (w0 : World) (X : Nat → Nat → Bool) (w : World) : Prop := Sub F w ∧ BRows F b.length g rb (lenB b) X w ∧ WroteAll b.length rb w0 w
theorem relV_p {F : PHeap} {x : PV} {v : Value} (h : RelV F noG (.p x) v) (hm : x.many = false) : RelP F x [v] := by
  cases h with
  | many h => rw [show (D.p x).many = x.many from rfl, hm] at h; cases h
  | one _ h => cases h with | p h => exact h
theorem refClosed_ok (b : List (List Piece)) (X : Nat → Nat → Bool) (F : PHeap) (w0 : World) (vb xv : Value) (g : Nat → Value) (rb : Nat → Nat) (hs : Sub F w0) (hb : RelV F noG (.p (eL (eL ePiece 38 dPiece) 1 [] b)) vb)
    (hx : RelP F (.lst 1 b.length (fun k => .v (g k))) [xv]) (hR : BRows F b.length g rb (lenB b) X w0) (hn : b.length < 1000) (hm : ∀ k, (b.getD k []).length < 1000) :
    Calls Try.prog 37 #[vb, xv] w0 fun e_ w_ => ∃ v, e_ = .returned v ∧ RelP F (.lst 1 b.length (fun k => .v (g k))) [v] ∧ CG F b g rb w0 (closedX b X) w_ := by
  refine calls_of_tq (F := F) (args := [eL (eL ePiece 38 dPiece) 1 [] b, .lst 1 b.length (fun k => .v (g k))]) (vs := [vb, xv]) (G := fun w_ => CG F b g rb w0 X w_) (fn := Try.f37) Try.func37 rfl (by kernel_rfl) rfl ?_ hs ⟨hs, hR, WroteAll.refl _ _ _⟩ ?_
  · intro i p v h1 h2
    match i with
    | 0 => cases h1; cases h2; exact hb
    | 1 => cases h1; cases h2; exact .one rfl (.p hx)
  refine tq_seq ?_
  refine tq_reg (vc := []) (E' := [(0, none, .p ((eL (eL ePiece 38 dPiece) 1 []) b)), (1, none, .p (.lst 1 b.length (fun q_ => .v (g q_))))]) [] [0, 1] (by kernel_rfl) ?_ ?_
  · exact trivial
  refine tq_then ?_
  refine tq_seq ?_
  refine tq_seq ?_
  refine tq_reg (vc := []) (E' := [(0, none, .p ((eL (eL ePiece 38 dPiece) 1 []) b)), (1, none, .p (.lst 1 b.length (fun q_ => .v (g q_)))), (5, none, vint .i64 0)]) [] [0, 1, 5] (by kernel_rfl) ?_ ?_
  · exact trivial
  refine tq_then ?_
  refine tq_block ?_
  refine tq_loop (α := Nat) (fun z : Nat => (fun (k : Nat) => [(0, none, .p ((eL (eL ePiece 38 dPiece) 1 []) b)), (1, none, .p (.lst 1 b.length (fun q_ => .v (g q_)))), (5, none, vint .i64 ((k : Nat) : Int))]) z) (fun z : Nat => (fun (k : Nat) => (fun w_ => CG F b g rb w0 (clX b X k 0) w_)) z) (fun z : Nat => (fun (k : Nat) => (k ≤ b.length)) z) (fun z : Nat => (fun (k : Nat) => b.length - k) z) 0 ?_ ?_ ?_
  · show (0 ≤ b.length)
    · omega
  · intro A_ W_ hS
    replace hS := qs_set (d := vint .i64 0) 5 (vint .i64 ((0 : Nat) : Int)) (by kernel_rfl) (eqD_int (by omega)) hS
    exact qs_g (by exact fun w_ h => by show CG F b g rb w0 (clX b X 0 0) w_; rw [clX_0]; exact h) (qs_proj (ts := [0, 1, 5]) (by kernel_rfl) hS)
  · intro z hz
    revert z; intro k hz
    have hz : (k ≤ b.length) := hz
    have hi0_0 := hz
    have hmk := hm k
    refine tq_seq ?_
    refine tq_seq ?_
    refine tq_reg (vc := []) (E' := [(0, none, .p ((eL (eL ePiece 38 dPiece) 1 []) b)), (1, none, .p (.lst 1 b.length (fun q_ => .v (g q_)))), (5, none, vint .i64 ((k : Nat) : Int)), (10, none, vbool (decide (((k : Nat) : Int) < ((b.length : Nat) : Int))))]) [] [0, 1, 5, 10] (by kernel_rfl) ?_ ?_
    · exact trivial
    refine tq_then ?_
    refine tq_condP (decide (((k : Nat) : Int) < ((b.length : Nat) : Int))) (((k : Nat) : Int) < ((b.length : Nat) : Int)) (by simp) (by kernel_rfl) (fun hc1 => ?_) (fun hc1 => ?_)
    · skip
      refine tq_skip ?_
      refine tq_then ?_
      refine tq_seq ?_
      refine tq_block ?_
      refine tq_seq ?_
      refine tq_reg (vc := []) (E' := [(0, none, .p ((eL (eL ePiece 38 dPiece) 1 []) b)), (1, none, .p (.lst 1 b.length (fun q_ => .v (g q_)))), (5, none, vint .i64 ((k : Nat) : Int)), (6, none, vint .i64 0)]) [] [0, 1, 5, 6] (by kernel_rfl) ?_ ?_
      · exact trivial
      refine tq_then ?_
      refine tq_block ?_
      refine tq_loop (α := Nat) (fun z : Nat => (fun (i : Nat) => [(0, none, .p ((eL (eL ePiece 38 dPiece) 1 []) b)), (1, none, .p (.lst 1 b.length (fun q_ => .v (g q_)))), (5, none, vint .i64 ((k : Nat) : Int)), (6, none, vint .i64 ((i : Nat) : Int))]) z) (fun z : Nat => (fun (i : Nat) => (fun w_ => CG F b g rb w0 (clX b X k i) w_)) z) (fun z : Nat => (fun (i : Nat) => (i ≤ (b.getD k []).length)) z) (fun z : Nat => (fun (i : Nat) => (b.getD k []).length - i) z) 0 ?_ ?_ ?_
      · show (0 ≤ (b.getD k []).length)
        · omega
      · intro A_ W_ hS
        replace hS := qs_set (d := vint .i64 0) 6 (vint .i64 ((0 : Nat) : Int)) (by kernel_rfl) (eqD_int (by omega)) hS
        exact qs_g (by exact fun _ h => h) (qs_proj (ts := [0, 1, 5, 6]) (by kernel_rfl) hS)
      · intro z hz
        revert z; intro i hz
        have hz : (i ≤ (b.getD k []).length) := hz
        have hi1_0 := hz
        have hlb : lenB b k = (b.getD k []).length + 1 := rfl
        have hgl : (GL b.length (lenB b) (clX b X k i)).length = b.length := GL_len
        refine tq_seq ?_
        refine tq_seq ?_
        refine tq_reg (vc := [(0 : Int) ≤ ((k : Nat) : Int), ((k : Nat) : Int) < (b.length : Int)]) (E' := [(0, none, .p ((eL (eL ePiece 38 dPiece) 1 []) b)), (1, none, .p (.lst 1 b.length (fun q_ => .v (g q_)))), (5, none, vint .i64 ((k : Nat) : Int)), (6, none, vint .i64 ((i : Nat) : Int)), (19, none, vbool (decide (((i : Nat) : Int) < (((b.getD k []).length : Nat) : Int))))]) [] [0, 1, 5, 6, 19] (by kernel_rfl) ?_ ?_
        · refine al ?_ (al ?_ (trivial))
          · omega
          · omega
        refine tq_then ?_
        refine tq_condP (decide (((i : Nat) : Int) < (((b.getD k []).length : Nat) : Int))) (((i : Nat) : Int) < (((b.getD k []).length : Nat) : Int)) (by simp) (by kernel_rfl) (fun hc2 => ?_) (fun hc2 => ?_)
        · skip
          refine tq_skip ?_
          refine tq_then ?_
          refine tq_seq ?_
          refine tq_block ?_
          refine tq_seq ?_
          refine tqg_read (vc := [(0 : Int) ≤ ((k : Nat) : Int), ((k : Nat) : Int) < ((GL b.length (lenB b) (clX b X k i)).length : Int), (0 : Int) ≤ ((i : Nat) : Int), ((i : Nat) : Int) < (((GL b.length (lenB b) (clX b X k i)).getD k []).length : Int), (((GL b.length (lenB b) (clX b X k i)).getD k []).getD i false) = (rowCl (b.getD k []) (X k) i i), (rowCl (b.getD k []) (X k) i i) = true → (rowCl (b.getD k []) (X k) i i) = true, (rowCl (b.getD k []) (X k) i i) = true → (rowCl (b.getD k []) (X k) i i) = true, (rowCl (b.getD k []) (X k) i i) = true → ((0 : Int) ≤ ((k : Nat) : Int)), (rowCl (b.getD k []) (X k) i i) = true → (((k : Nat) : Int) < (b.length : Int)), (rowCl (b.getD k []) (X k) i i) = true → (rowCl (b.getD k []) (X k) i i) = true, (rowCl (b.getD k []) (X k) i i) = true → (rowCl (b.getD k []) (X k) i i) = true, (rowCl (b.getD k []) (X k) i i) = true → (rowCl (b.getD k []) (X k) i i) = true, (rowCl (b.getD k []) (X k) i i) = true → ((0 : Int) ≤ ((i : Nat) : Int)), (rowCl (b.getD k []) (X k) i i) = true → (((i : Nat) : Int) < ((b.getD k []).length : Int)), (rowCl (b.getD k []) (X k) i i) = true → (rowCl (b.getD k []) (X k) i i) = true, (rowCl (b.getD k []) (X k) i i) = true → (rowCl (b.getD k []) (X k) i i) = true, (rowCl (b.getD k []) (X k) i i) = true → (rowCl (b.getD k []) (X k) i i) = true, (rowCl (b.getD k []) (X k) i i) = true → (rowCl (b.getD k []) (X k) i i) = true]) (E' := [(39, none, vbool ((rowCl (b.getD k []) (X k) i i) && ((((b.getD k []).getD i dPiece).More) != 0)))]) (E2 := [(0, none, .p ((eL (eL ePiece 38 dPiece) 1 []) b)), (1, none, .p (.lst 1 b.length (fun q_ => .v (g q_)))), (5, none, vint .i64 ((k : Nat) : Int)), (6, none, vint .i64 ((i : Nat) : Int))]) 1 (.p (.lst 1 b.length (fun q_ => .v (g q_)))) (.p ((eL (eL eB 1 false) 1 []) (GL b.length (lenB b) (clX b X k i)))) (fun w_ => addW F b.length rb w_) [(6, vbool (rowCl (b.getD k []) (X k) i i))] [39] [0, 1, 5, 6] (by kernel_rfl) (by kernel_rfl) ?_ (by kernel_rfl) (by kernel_rfl) (by kernel_rfl) ?_ ?_
          · refine al ?_ (al ?_ (al ?_ (al ?_ (al ?_ (al ?_ (al ?_ (al ?_ (al ?_ (al ?_ (al ?_ (al ?_ (al ?_ (al ?_ (al ?_ (al ?_ (al ?_ (al ?_ (trivial))))))))))))))))))
            · omega
            · omega
            · omega
            · rw [GL_rlen (by omega)]; omega
            · exact (GL_get (by omega) (by omega)).trans (congrFun (clX_at b X k i) i)
            · exact id
            · exact id
            · omega
            · omega
            · exact id
            · exact id
            · exact id
            · omega
            · omega
            · exact id
            · exact id
            · exact id
            · exact id
          · exact fun w_ hs_ hg => read_grid hs_ hg.2.1
          refine nq_pre (E' := [(0, none, .p ((eL (eL ePiece 38 dPiece) 1 []) b)), (1, none, .p (.lst 1 b.length (fun q_ => .v (g q_)))), (5, none, vint .i64 ((k : Nat) : Int)), (6, none, vint .i64 ((i : Nat) : Int)), (39, none, vbool ((rowCl (b.getD k []) (X k) i i) && ((((b.getD k []).getD i dPiece).More) != 0)))]) (fun a_ w_ hS => qs_proj (ts := [0, 1, 5, 6, 39]) (by kernel_rfl) hS) ?_
          refine tq_then ?_
          refine tq_condP ((rowCl (b.getD k []) (X k) i i) && ((((b.getD k []).getD i dPiece).More) != 0)) (((rowCl (b.getD k []) (X k) i i) = true) ∧ ((((b.getD k []).getD i dPiece).More) ≠ 0)) (by simp) (by kernel_rfl) (fun hc3 => ?_) (fun hc3 => ?_)
          · skip
            refine tqg_store (n := b.length) (e := 4) (rb := rb) (len := lenB b) (G' := (fun w_ => CG F b g rb w0 (clX b X k (i + 1)) w_)) (g := g) (f := (fun k_ i_ => .bool (clX b X k i k_ i_))) (f' := (fun i_ => .bool (upd (clX b X k i k) ((i + 1)) true i_))) (vc1 := [(0 : Int) ≤ ((k : Nat) : Int), ((k : Nat) : Int) < (b.length : Int)]) (vc2 := [(IntKind.wrap .i64 (((i : Nat) : Int) + 1)) = (((i + 1) : Nat) : Int), (0 : Int) ≤ (((i + 1) : Nat) : Int), (((i + 1) : Nat) : Int) < (lenB b k : Int), (i + 1) < lenB b k]) (E1 := [(6, none, vint .i64 ((i : Nat) : Int)), (43, none, .p (.v (g k)))]) (f2 := upd (fun x_ => .p (.v ((fun i_ => .bool (clX b X k i k i_)) x_))) (i + 1) (.p (.v (.bool true)))) (E3 := [(0, none, .p ((eL (eL ePiece 38 dPiece) 1 []) b)), (1, none, .p (.lst 1 b.length (fun q_ => .v (g q_)))), (5, none, vint .i64 ((k : Nat) : Int)), (6, none, vint .i64 ((i : Nat) : Int))]) 4 43 k [] [(5, vint .i64 (((i + 1) : Nat) : Int))] [6, 43] [0, 1, 5, 6] (by kernel_rfl) ?_ (by kernel_rfl) (by omega) (by kernel_rfl) ?_ ?_ (by kernel_rfl) (by kernel_rfl) ?_ ?_ ?_
            · refine al ?_ (al ?_ (trivial))
              · omega
              · omega
            · refine al ?_ (al ?_ (al ?_ (al ?_ (trivial))))
              · exact wr64 (by omega) (by omega) (by omega) -- r8s.0
              · omega -- r8s.1
              · omega -- r8s.2
              · omega -- r8s.3
            · intro i_ _; unfold upd; by_cases h_ : i_ = (i + 1) <;> simp [h_]
            · exact fun w_ hg => hg.2.1
            · exact fun w_ w2_ hg hw hs_ hr => ⟨hs_, by have := BRows.set hr; rw [clX_set hc3] at this; exact this, hg.2.2.next (by omega) hw⟩
            refine qin_n ?_
            refine tq_then ?_
            refine tq_reg (vc := [(IntKind.wrap .i64 (((i : Nat) : Int) + 1)) = (((i + 1) : Nat) : Int)]) (E' := [(0, none, .p ((eL (eL ePiece 38 dPiece) 1 []) b)), (1, none, .p (.lst 1 b.length (fun q_ => .v (g q_)))), (5, none, vint .i64 ((k : Nat) : Int)), (6, none, vint .i64 (((i + 1) : Nat) : Int))]) [(1, vint .i64 (((i + 1) : Nat) : Int))] [0, 1, 5, 6] (by kernel_rfl) ?_ ?_
            · refine al ?_ (trivial)
              · exact wr64 (by omega) (by omega) (by omega)
            refine qlp_end (i + 1) ?_ ?_ ?_
            · show ((i + 1) ≤ (b.getD k []).length)
              · omega
            · show (b.getD k []).length - (i + 1) < (b.getD k []).length - i
              omega
            · intro A_ W_ hS
              exact qs_g (by first | exact fun w_ h => h | (exact fun w_ h => by show CG F b g rb w0 (clX b X k (i + 1)) w_; rw [← clX_no hc3]; exact h)) (qs_proj (ts := [0, 1, 5, 6]) (by kernel_rfl) hS)
          · skip
            refine tq_skip ?_
            refine qin_n ?_
            refine tq_then ?_
            refine tq_reg (vc := [(IntKind.wrap .i64 (((i : Nat) : Int) + 1)) = (((i + 1) : Nat) : Int)]) (E' := [(0, none, .p ((eL (eL ePiece 38 dPiece) 1 []) b)), (1, none, .p (.lst 1 b.length (fun q_ => .v (g q_)))), (5, none, vint .i64 ((k : Nat) : Int)), (6, none, vint .i64 (((i + 1) : Nat) : Int))]) [(1, vint .i64 (((i + 1) : Nat) : Int))] [0, 1, 5, 6] (by kernel_rfl) ?_ ?_
            · refine al ?_ (trivial)
              · exact wr64 (by omega) (by omega) (by omega)
            refine qlp_end (i + 1) ?_ ?_ ?_
            · show ((i + 1) ≤ (b.getD k []).length)
              · omega
            · show (b.getD k []).length - (i + 1) < (b.getD k []).length - i
              omega
            · intro A_ W_ hS
              exact qs_g (by first | exact fun w_ h => h | (exact fun w_ h => by show CG F b g rb w0 (clX b X k (i + 1)) w_; rw [← clX_no hc3]; exact h)) (qs_proj (ts := [0, 1, 5, 6]) (by kernel_rfl) hS)
        · skip
          refine tq_exit ?_
          refine tqh_e ?_
          refine tqh_e ?_
          refine qin_hit ?_
          refine qin_n ?_
          refine tq_then ?_
          refine tq_reg (vc := [(IntKind.wrap .i64 (((k : Nat) : Int) + 1)) = (((k + 1) : Nat) : Int)]) (E' := [(0, none, .p ((eL (eL ePiece 38 dPiece) 1 []) b)), (1, none, .p (.lst 1 b.length (fun q_ => .v (g q_)))), (5, none, vint .i64 (((k + 1) : Nat) : Int))]) [(1, vint .i64 (((k + 1) : Nat) : Int))] [0, 1, 5] (by kernel_rfl) ?_ ?_
          · refine al ?_ (trivial)
            · exact wr64 (by omega) (by omega) (by omega)
          refine qlp_end (k + 1) ?_ ?_ ?_
          · show ((k + 1) ≤ b.length)
            · omega
          · show b.length - (k + 1) < b.length - k
            omega
          · intro A_ W_ hS
            exact qs_g (by exact fun w_ h => by show CG F b g rb w0 (clX b X (k + 1) 0) w_; rw [← clX_row, show (b.getD k []).length = i by omega]; exact h) (qs_proj (ts := [0, 1, 5]) (by kernel_rfl) hS)
    · skip
      refine tq_exit ?_
      refine tqh_e ?_
      refine tqh_e ?_
      refine qin_hit ?_
      refine tq_then ?_
      refine tq_seq ?_
      refine tq_reg (vc := []) (E' := [(4, none, .p (.lst 1 b.length (fun q_ => .v (g q_))))]) [] [4] (by kernel_rfl) ?_ ?_
      · exact trivial
      refine tq_then ?_
      refine tq_return (rs := Try.f37.results) (R := fun e_ w_ => ∃ v, e_ = .returned v ∧ RelP F (.lst 1 b.length (fun k => .v (g k))) [v] ∧ CG F b g rb w0 (closedX b X) w_) (vc := []) (ds := [.p (.lst 1 b.length (fun q_ => .v (g q_)))]) (by kernel_rfl) trivial (fun _ _ h => h) ?_ -- ret1
      exact fun w_ v_ hr hg => ⟨v_, rfl, relV_p hr rfl, by rw [closedX, show b.length = k by omega]; exact hg⟩
end Go.Proofs.Ytjnjmnfacaakfaa
namespace Go.Eng
open Go.RowKit
theorem putH_at : ∀ {H : List O} {n : Nat} {o : O}, n ≤ H.length → (putH H n o)[n]? = some o
  | [], 0, _, _ => rfl
  | [], n + 1, _, h => by simp at h
  | _ :: _, 0, _, _ => rfl
  | _ :: l, n + 1, o, h => by
    simp only [putH, List.getElem?_cons_succ]
    exact putH_at (by simpa using h)
theorem putH_ne : ∀ {H : List O} {n j : Nat} {o x : O}, j ≠ n → H[j]? = some x → (putH H n o)[j]? = some x
  | [], _, _, _, _, _, h => by simp at h
  | _ :: _, 0, 0, _, _, h, _ => absurd rfl h
  | _ :: _, 0, j + 1, _, _, _, h => by simpa [putH] using h
  | _ :: _, n + 1, 0, _, _, _, h => by simpa [putH] using h
  | _ :: l, n + 1, j + 1, o, x, hne, h => by
    simp only [putH, List.getElem?_cons_succ] at h ⊢
    exact putH_ne (by omega) h
section
variable {P : Program} {N : Nat} {F : PHeap} {w0 w w1 : World} {T e n m : Nat} {g : Nat → Value} {rb : Nat → Nat} {len : Nat → Nat} {f : Nat → Nat → Value} {ov : Value}
/-- The slice and its rows as objects, one row more than before. -/
def gridH (T e n : Nat) (g : Nat → Value) (len : Nat → Nat) (f : Nat → Nat → Value) : List O := .arr T 1 n (fun j => .p (.v (g j))) :: (List.range (n + 1)).map fun k => rowO e (len k) (f k)
def gridγ (n : Nat) (g : Nat → Value) (ov : Value) : Gm := fun i => match i with
  | 0 => some ov
  | k + 1 => if k < n + 1 then some (g k) else none
theorem gridH_get {i : Nat} {o : O} (h : (gridH T e n g len f)[i]? = some o) : (i = 0 ∧ o = .arr T 1 n (fun j => .p (.v (g j)))) ∨ ∃ k, i = k + 1 ∧ k < n + 1 ∧ o = rowO e (len k) (f k) := by
  unfold gridH at h
  cases i with
  | zero => exact .inl ⟨rfl, (Option.some.inj h).symm⟩
  | succ k =>
    right
    rw [List.getElem?_cons_succ, List.getElem?_map] at h
    by_cases hk : k < n + 1
    · rw [List.getElem?_range hk] at h
      exact ⟨k, rfl, hk, (Option.some.inj h).symm⟩
    · rw [List.getElem?_eq_none (by simpa using hk)] at h
      cases h
theorem gridH_len : (gridH T e n g len f).length = n + 2 := by simp [gridH]
/-- Rows, and one more behind them. -/
theorem Rows.push (h : Rows F e n g rb len f w) {gk : Value} {rk : Nat} (hg : Keep w w1) (hrow : RelO noF noG w1 (rowO e (len n) (f n)) gk) (hb : Go.Eng.blk gk = some rk) (hnew : w.heap.size ≤ rk) (hF : F rk = none) : Rows F e (n + 1) (upd g n gk) (upd rb n rk) len f w1 where
  row := fun k hk => by
    unfold upd
    by_cases hkn : k = n
    · subst hkn; rw [if_pos rfl]; exact hrow
    · rw [if_neg hkn]
      have hk' : k < n := by omega
      refine (h.row k hk').same fun b hb' => ?_
      rw [h.blk k hk'] at hb'
      cases hb'
      obtain ⟨c, cap, _, h2, _⟩ := h.cells hk'
      rw [h2, hg _ _ h2]
  blk := fun k hk => by
    unfold upd
    by_cases hkn : k = n
    · subst hkn; rw [if_pos rfl, if_pos rfl]; exact hb
    · rw [if_neg hkn, if_neg hkn]; exact h.blk k (by omega)
  inj := fun i j hi hj => by
    have lt : ∀ k, k < n → rb k < w.heap.size := fun k hk => by
      obtain ⟨c, cap, _, h2, _⟩ := h.cells hk
      exact (Array.getElem?_eq_some_iff.1 h2).1
    unfold upd
    by_cases hin : i = n
    · by_cases hjn : j = n
      · intro _; omega
      · rw [if_pos hin, if_neg hjn]; intro he; have := lt j (by omega); omega
    · by_cases hjn : j = n
      · rw [if_neg hin, if_pos hjn]; intro he; have := lt i (by omega); omega
      · rw [if_neg hin, if_neg hjn]; exact h.inj i j (by omega) (by omega)
  out := fun k hk => by
    unfold upd
    by_cases hkn : k = n
    · rw [if_pos hkn]; exact hF
    · rw [if_neg hkn]; exact h.out k (by omega)
theorem grid_slh {F' : PHeap} {g' : Nat → Value} {rb' : Nat → Nat} (hR : Rows F' e (n + 1) g' rb' len f w1) (hgr : Grew w0 w1) (hs : Sub F' w1) (hnew : ∀ k, k < n + 1 → w0.heap.size ≤ rb' k) (hO : RelO noF noG w1 (.arr T 1 n (fun j => .p (.v (g' j)))) ov)
    (hap : ∀ b, Go.Eng.blk ov = some b → w0.heap.size ≤ b ∧ b < w1.heap.size ∧ F' b = none ∧ ∀ k, k < n + 1 → rb' k ≠ b) : SLH ⟨P, w0, F', [], N⟩ F' (gridγ n g' ov) (gridH T e n g' len f) w1 where
  sub := hs
  ext := fun _ _ => rfl
  top := fun i hi => by
    rw [gridH_len] at hi
    obtain ⟨k, rfl⟩ : ∃ k, i = k + 1 := ⟨i - 1, by omega⟩
    show (if k < n + 1 then some (g' k) else none) = none
    rw [if_neg (by omega)]
  free := fun i hi => by
    rcases gridH_get hi with ⟨_, h⟩ | ⟨k, _, _, h⟩ <;> cases h
  obj := fun i o v ho hv => by
    rcases gridH_get ho with ⟨rfl, rfl⟩ | ⟨k, rfl, hk, rfl⟩
    · cases hv
      exact hO.mono (fun _ _ h => by cases h) (fun _ _ h => by cases h)
    · have hv : (if k < n + 1 then some (g' k) else none) = some v := hv
      rw [if_pos hk] at hv
      cases hv
      exact (hR.row k hk).mono (fun _ _ h => by cases h) (fun _ _ h => by cases h)
  apart := fun i o v b ho _ hv hb => by
    rcases gridH_get ho with ⟨rfl, rfl⟩ | ⟨k, rfl, hk, rfl⟩
    · cases hv
      obtain ⟨a1, a2, a3, _⟩ := hap b hb
      exact ⟨a3, a2, fun _ => a1⟩
    · have hv : (if k < n + 1 then some (g' k) else none) = some v := hv
      rw [if_pos hk] at hv
      cases hv
      rw [hR.blk k hk] at hb
      cases hb
      obtain ⟨c, cap, _, h2, _⟩ := hR.cells hk
      exact ⟨hR.out k hk, (Array.getElem?_eq_some_iff.1 h2).1, fun _ => hnew k hk⟩
  given := fun i hi => by simp at hi
  dis := fun i j o o' v v' b h1 h2 hij _ _ hv hv' hb => by
    rcases gridH_get h1 with ⟨rfl, rfl⟩ | ⟨k, rfl, hk, rfl⟩
    · cases hv
      rcases gridH_get h2 with ⟨rfl, rfl⟩ | ⟨k', rfl, hk', rfl⟩
      · exact absurd rfl hij
      · have hv' : (if k' < n + 1 then some (g' k') else none) = some v' := hv'
        rw [if_pos hk'] at hv'
        cases hv'
        rw [hR.blk k' hk']
        exact fun h => (hap b hb).2.2.2 k' hk' (Option.some.inj h)
    · have hv : (if k < n + 1 then some (g' k) else none) = some v := hv
      rw [if_pos hk] at hv
      cases hv
      rw [hR.blk k hk] at hb
      cases hb
      rcases gridH_get h2 with ⟨rfl, rfl⟩ | ⟨k', rfl, hk', rfl⟩
      · cases hv'
        exact fun h => (hap _ h).2.2.2 k hk rfl
      · have hv' : (if k' < n + 1 then some (g' k') else none) = some v' := hv'
        rw [if_pos hk'] at hv'
        cases hv'
        rw [hR.blk k' hk']
        exact fun h => hij (by rw [hR.inj k k' hk hk' (Option.some.inj h).symm])
  os := hgr.os
  tape := hgr.tape
  output := hgr.output
  grows := hgr.size
  block := fun k hk _ => hgr.block k hk
theorem keep_grew (h : Grew w w1) : Keep w w1 := fun b o hb => by rw [h.block b (Array.getElem?_eq_some_iff.1 hb).1]; exact hb
/-- A region that makes a row, puts it into a slice of its own, and appends that. -/
theorem tqg_push {E E1 E3 : Env} {G : World → Prop} {Q : Exit → Act → World → Prop} {l : List Oper} {id : Nat} {vc1 vcX} {o : Oper} {fr : Nat → D} {fl : Nat → D} (n1 tO tX tA tS : Nat) (hs : List (Nat × D)) (us ks : List Nat)
    (h1 : (run P 0 N l.toArray hs 0 (l.take n1) E []).bind (fun q => (proj q.2.1 us).map fun x => (q.1, x, q.2.2)) = some (vc1, E1, [.arr e 1 m fr, .arr T 1 1 fl])) (hvc1 : all vc1)
    (hO : E1.get tO = some (none, .p (.v ov))) (hX : E1.get tX = some (none, .own 1)) (hfl : fl 0 = .own 0) (hm : m = len n) (hm0 : 0 < m) (hfr : ∀ i, i < m → fr i = .p (.v (f n i)))
    (hn : l[n1]? = some o) (hgd : o.guard = none) (hd : o.dst = some tA) (hdk : dstOk N (some tA) = true) (hop : ∀ x ∈ o.op.operands, x = .tmp tO ∨ x = .tmp tX)
    (hev : ∀ (g : Nat → Value) (tl : List O) (tg : Nat) (gk : Value), evX P 0 (.arr T 1 n (fun j => .p (.v (g j))) :: tl) tg (evE [(tO, none, .own 0), (tX, none, .p (.lst 1 1 (fun _ => .v gk)))]) o.op = some (vcX, some (.own tg), [(0, .dead), (tg, .arr T 1 (n + 1) (appF (fun j => .p (.v (g j))) n (fun _ => .p (.v gk))))])) (hvcX : all vcX)
    (hsuf : ∀ v : Value, ((runQ P N l.toArray [] [] (n1 + 1) (l.drop (n1 + 1)) [(tA, none, .p (.v v))]).bind fun q => (proj q.2 [tS]).map fun x => (q.1, x)) = some ([], [(tS, none, .p (.v v))]))
    (hkp : keepsB l ks = true) (hp : proj E ks = some E3) (hG : ∀ w, G w → NewGrid F w0 w ov T e n g rb len f)
    (hk : ∀ (v gk : Value) (rk : Nat) a w, QS N F ((tS, none, .p (.v v)) :: E3) (fun w => NewGrid F w0 w v T e (n + 1) (upd g n gk) (upd rb n rk) len f) a w → Q .normal a w) : TrQ P N F (.region id l.toArray false) E G Q := by
  intro a w hS
  have hNG := hG w hS.g
  cases hr1 : run P 0 N l.toArray hs 0 (l.take n1) E [] with
  | none => rw [hr1] at h1; cases h1
  | some q1 =>
  obtain ⟨va, Ea, Ha⟩ := q1
  rw [hr1] at h1
  simp only [Option.bind_some, Option.map_eq_some_iff, Prod.mk.injEq] at h1
  obtain ⟨E1', hpj, rfl, rfl, rfl⟩ := h1
  refine wp_region_lit ?_
  have hkp2 : keepsB (l.take n1) ks = true ∧ keepsB (l.drop n1) ks = true := by
    have : keepsB (l.take n1 ++ l.drop n1) ks = true := by rw [List.take_append_drop]; exact hkp
    unfold keepsB at this ⊢
    rw [List.all_append, Bool.and_eq_true] at this
    exact this
  have hdr : l.drop n1 = o :: l.drop (n1 + 1) := by
    obtain ⟨hlt, hget⟩ := List.getElem?_eq_some_iff.1 hn
    rw [List.drop_eq_getElem_cons hlt, hget]
  have hSL : SL ⟨P, w, F, [], N⟩ E [] a w := ⟨⟨F, _, qs_slh hS.s, hS.e⟩, hS.n, hS.d⟩
  have key : wpList P l.toArray Q (l.take n1 ++ l.drop n1) a w := by
    refine run_keep (C := ⟨P, w, F, [], N⟩) (ks := ks) hSL hr1 hvc1 hkp2.1 fun a1 w1 hS1 hk1 => ?_
    obtain ⟨⟨F1, γ1, s1, s2⟩, s3, s4⟩ := hS1
    have s2' : SLE F1 γ1 E1' a1 := sle_proj hpj s2
    have hgw : Grew w w1 := ⟨s1.os, s1.tape, s1.output, s1.grows, fun b hb => s1.block b hb fun v hv => by simp at hv⟩
    -- the slots
    obtain ⟨vO, o1, o2⟩ := (s2' _ _ _ hO).1 trivial
    have hvO := v_val o2
    rw [hvO] at o1 o2
    obtain ⟨vX, x1, x2⟩ := (s2' _ _ _ hX).1 trivial
    have hγ1 : γ1 1 = some vX := by
      cases x2 with
      | many hmm => cases hmm
      | one _ x2 => cases x2 with | own h _ => exact h
    -- the literal: one element, the row
    have hlit := s1.obj 1 _ vX rfl hγ1
    obtain ⟨bl, cl_, capl, l1, l2, l3, l4, l5, l6⟩ : ∃ bl c cap, vX = .slice (some ⟨bl, 0, none⟩) 1 cap ∧ w1.heap[bl]? = some (.cells c T (0, 0)) ∧ 1 ≤ cap ∧ cap ≤ maxLen ∧ c.size = cap * 1 ∧ RelD F1 γ1 (fl 0) ((c.toList.drop (0 * 1)).take 1) := by
      cases hlit with
      | arr a1 a2 a3 a4 a5 => exact ⟨_, _, _, rfl, a1, a2, a3, a4, a5 0 (by omega)⟩
    rw [hfl] at l6
    obtain ⟨gk, hgk, hcell⟩ : ∃ gk, γ1 0 = some gk ∧ (cl_.toList.drop (0 * 1)).take 1 = [gk] := by
      generalize (cl_.toList.drop (0 * 1)).take 1 = cs at l6
      cases l6 with
      | own h _ => exact ⟨_, h, rfl⟩
    have hrow0 := s1.obj 0 _ gk rfl hgk
    have hrowS : RelO noF noG w1 (rowO e m (f n)) gk := relO_scal hrow0 hfr
    obtain ⟨rk, hrk⟩ : ∃ rk, blk gk = some rk := by
      cases hrowS with
      | arr0 => omega
      | arr => exact ⟨_, rfl⟩
    obtain ⟨ap1, ap2, ap3⟩ := s1.apart 0 _ gk rk rfl rfl hgk hrk
    have hnewk : w.heap.size ≤ rk := ap3 (Nat.le_refl _)
    obtain ⟨bp1, bp2, bp3⟩ := s1.apart 1 _ vX bl rfl rfl hγ1 (by rw [l1]; rfl)
    have hnewl : w.heap.size ≤ bl := bp3 (Nat.zero_le _)
    have hlr : bl ≠ rk := fun h => s1.dis 0 1 _ _ gk vX rk rfl rfl (by omega) rfl rfl hgk hγ1 hrk (by rw [l1]; show some bl = some rk; rw [h])
    have hFge : ∀ b, w.heap.size ≤ b → F b = none := fun b hb => by
      cases hf : F b with
      | none => rfl
      | some c =>
        obtain ⟨T', fz, h⟩ := hNG.sub b c hf
        have := (Array.getElem?_eq_some_iff.1 h).1
        omega
    have hkeep := keep_grew hgw
    subst hm
    have hR1 : Rows F e (n + 1) (upd g n gk) (upd rb n rk) len f w1 := hNG.rows.push hkeep hrowS hrk hnewk (hFge _ hnewk)
    -- with the literal at rest
    let FB : PHeap := fun b => if b = bl then some cl_ else F b
    have hFB : ∀ b c, F b = some c → FB b = some c := fun b c hb => by
      show (if b = bl then some cl_ else F b) = some c
      rw [if_neg]
      · exact hb
      · intro h
        rw [h, hFge bl hnewl] at hb
        cases hb
    have hsubB : Sub FB w1 := fun b c hb => by
      have hb : (if b = bl then some cl_ else F b) = some c := hb
      by_cases h : b = bl
      · subst h
        rw [if_pos rfl] at hb
        cases hb
        exact ⟨_, _, l2⟩
      · rw [if_neg h] at hb
        obtain ⟨T', fz, h'⟩ := hNG.sub b c hb
        exact ⟨T', fz, hkeep _ _ h'⟩
    have lt : ∀ k, k < n → rb k < w.heap.size := fun k hk => by
      obtain ⟨c, cap, _, h2, _⟩ := hNG.rows.cells hk
      exact (Array.getElem?_eq_some_iff.1 h2).1
    have hRB : Rows FB e (n + 1) (upd g n gk) (upd rb n rk) len f w1 := ⟨hR1.row, hR1.blk, hR1.inj, fun k hk => by
      show (if upd rb n rk k = bl then some cl_ else F (upd rb n rk k)) = none
      rw [if_neg, hR1.out k hk]
      unfold upd
      by_cases hkn : k = n
      · rw [if_pos hkn]; exact fun h => hlr h.symm
      · rw [if_neg hkn]; have := lt k (by omega); omega⟩
    have hOw1 : RelO noF noG w1 (.arr T 1 n (fun j => .p (.v (upd g n gk j)))) ov := by
      have h := hNG.outer.same (w' := w1) fun b hb => by
        have hbw : ∃ o, w.heap[b]? = some o := by
          have hh := hNG.outer
          generalize ov = ov' at hh hb
          cases hh with
          | arr0 => cases hb
          | arr a1 => cases hb; exact ⟨_, a1⟩
        obtain ⟨oo, hoo⟩ := hbw
        rw [hoo]; exact hkeep _ _ hoo
      exact relO_scal h fun i hi => by unfold upd; rw [if_neg (by omega)]
    have hobw : ∀ b, blk ov = some b → b < w.heap.size := fun b hb => by
      have hh := hNG.outer
      generalize ov = ov' at hh hb
      cases hh with
      | arr0 => cases hb
      | arr a1 => cases hb; exact (Array.getElem?_eq_some_iff.1 a1).1
    have hgr1 : Grew w0 w1 := hNG.grew.trans hgw
    have hSB : SLH ⟨P, w0, FB, [], N⟩ FB (gridγ n (upd g n gk) ov) (gridH T e n (upd g n gk) len f) w1 := grid_slh hRB hgr1 hsubB (fun k hk => by
        unfold upd
        by_cases hkn : k = n
        · rw [if_pos hkn]; exact Nat.le_trans hNG.grew.size hnewk
        · rw [if_neg hkn]; exact hNG.new k (by omega)) hOw1 fun b hb => by
      have h1 := hobw b hb
      obtain ⟨h2, h3, h4⟩ := hNG.apart b hb
      refine ⟨h2, Nat.lt_of_lt_of_le h1 hgw.size, ?_, fun k hk => ?_⟩
      · show (if b = bl then some cl_ else F b) = none
        rw [if_neg (by omega), h3]
      · unfold upd
        by_cases hkn : k = n
        · rw [if_pos hkn]; omega
        · rw [if_neg hkn]; exact h4 k (by omega)
    -- the append
    have hevB : ∀ x ∈ o.op.operands, ∀ d, evE [(tO, none, .own 0), (tX, none, .p (.lst 1 1 (fun _ => .v gk)))] x = some d → RelV FB (gridγ n (upd g n gk) ov) d (a1.eval x) := by
      have hE : SLE FB (gridγ n (upd g n gk) ov) [(tO, none, .own 0), (tX, none, .p (.lst 1 1 (fun _ => .v gk)))] a1 := by
        have hone : ov.oneCell' = true := by
          cases o2 with
          | many hmm => cases hmm
          | one _ o2 => cases o2 with | p o2 => cases o2 with | v h => exact h
        refine sle_cons o1 (.one rfl (.own rfl hone)) (sle_cons x1 ?_ fun _ _ _ h => by cases h)
        rw [l1]
        refine .one rfl (.p (.lst (c := cl_) (by show (if bl = bl then some cl_ else F bl) = some cl_; rw [if_pos rfl]) l3 (by omega) fun i hi => ?_))
        obtain rfl : i = 0 := by omega
        rw [Nat.zero_add, hcell]
        have h1k : gk.oneCell' = true := by
          obtain ⟨_, _, e1, _⟩ := relO_cells hrowS hrk
          rw [e1]; rfl
        exact .v h1k
      intro x hx d hd
      rcases hop x hx with rfl | rfl
      · simp only [evE] at hd
        split at hd
        · rename_i g0 d0 hg
          cases hd
          have hg' : g0 = none := by
            simp only [Env.get] at hg
            cases hb : Nat.beq tO tO with
            | true => rw [hb] at hg; simp only [cond_true, Option.some.injEq, Prod.mk.injEq] at hg; exact hg.1.symm
            | false => simp at hb
          subst hg'
          obtain ⟨v, v1, v2⟩ := (hE _ _ _ hg).1 trivial
          rw [eval_tmp v1]; exact v2
        · cases hd
      · simp only [evE] at hd
        split at hd
        · rename_i g0 d0 hg
          cases hd
          have hg' : g0 = none := by
            simp only [Env.get] at hg
            cases hb : Nat.beq tO tX with
            | true => rw [hb] at hg; simp only [cond_true, Option.some.injEq, Prod.mk.injEq] at hg; exact hg.1.symm
            | false =>
              rw [hb] at hg
              cases hb2 : Nat.beq tX tX with
              | true => rw [hb2] at hg; simp only [cond_false, cond_true, Option.some.injEq, Prod.mk.injEq] at hg; exact hg.1.symm
              | false => simp at hb2
          subst hg'
          obtain ⟨v, v1, v2⟩ := (hE _ _ _ hg).1 trivial
          rw [eval_tmp v1]; exact v2
        · cases hd
    have hfree : isFree (gridH T e n (upd g n gk) len f) (n + 2) = true := by
      have := free_end (gridH T e n (upd g n gk) len f)
      rw [gridH_len] at this
      exact this
    have hev' := hev (upd g n gk) ((List.range (n + 1)).map fun k => rowO e (len k) (f k)) (n + 2) gk
    obtain ⟨F', γ', w2, r, r1, r2, r3, r4, v, rfl, r5⟩ := evX_sound (C := ⟨P, w0, FB, [], N⟩) (ρ := a1.eval) (o := o) hSB hfree hevB hev' hvcX
    have hγv : γ' (n + 2) = some v := by
      cases r5 with
      | many hmm => cases hmm
      | one _ r5 => cases r5 with | own h _ => exact h
    have hone : v.oneCell' = true := by
      cases r5 with
      | many hmm => cases hmm
      | one _ r5 => cases r5 with | own _ h => exact h
    have hlen1 : (putH (gridH T e n (upd g n gk) len f) 0 .dead).length = n + 2 := by
      rw [putH_set (by rw [gridH_len]; omega), List.length_set, gridH_len]
    have hrowget : ∀ k, k < n + 1 → (applyU (gridH T e n (upd g n gk) len f) [(0, .dead), (n + 2, .arr T 1 (n + 1) (appF (fun j => .p (.v (upd g n gk j))) n (fun _ => .p (.v gk))))])[k + 1]? = some (rowO e (len k) (f k)) := fun k hk => by
      show (putH (putH (gridH T e n (upd g n gk) len f) 0 .dead) (n + 2) _)[k + 1]? = _
      refine putH_ne (by omega) (putH_ne (by omega) ?_)
      show ((List.range (n + 1)).map fun k => rowO e (len k) (f k))[k]? = _
      rw [List.getElem?_map, List.getElem?_range hk]; rfl
    have houtget : (applyU (gridH T e n (upd g n gk) len f) [(0, .dead), (n + 2, .arr T 1 (n + 1) (appF (fun j => .p (.v (upd g n gk j))) n (fun _ => .p (.v gk))))])[n + 2]? = some (.arr T 1 (n + 1) (appF (fun j => .p (.v (upd g n gk j))) n (fun _ => .p (.v gk)))) :=
      putH_at (by rw [hlen1]; exact Nat.le_refl _)
    have hγr : ∀ k, k < n + 1 → γ' (k + 1) = some (upd g n gk k) := fun k hk => r4 (k + 1) _ (by show (if k < n + 1 then some (upd g n gk k) else none) = _; rw [if_pos hk])
    have hFF' : ∀ b c, F b = some c → F' b = some c := fun b c h => r3 b c (hFB b c h)
    have hN2 : NewGrid F w0 w2 v T e (n + 1) (upd g n gk) (upd rb n rk) len f := {
      grew := ⟨r2.os, r2.tape, r2.output, r2.grows, fun b hb => r2.block b hb fun x hx => by simp at hx⟩
      sub := fun b c hb => r2.sub b c (hFF' b c hb)
      rows := ⟨fun k hk => relO_scal (r2.obj (k + 1) _ _ (hrowget k hk) (hγr k hk)) fun _ _ => rfl, hR1.blk, hR1.inj, hR1.out⟩
      new := fun k hk => by
        unfold upd
        by_cases hkn : k = n
        · rw [if_pos hkn]; exact Nat.le_trans hNG.grew.size hnewk
        · rw [if_neg hkn]; exact hNG.new k (by omega)
      outer := relO_scal (r2.obj (n + 2) _ v houtget hγv) fun j hj => by
        unfold appF
        by_cases hjn : j < n
        · rw [if_pos hjn]
        · obtain rfl : j = n := by omega
          rw [if_neg hjn]
          unfold upd
          rw [if_pos rfl]
      apart := fun b hb => by
        obtain ⟨a1', a2', a3'⟩ := r2.apart (n + 2) _ v b houtget rfl hγv hb
        refine ⟨a3' (Nat.zero_le _), ?_, fun k hk he => ?_⟩
        · cases hf : F b with
          | none => rfl
          | some c => rw [hFF' b c hf] at a1'; cases a1'
        · exact r2.dis (n + 2) (k + 1) _ _ v _ b houtget (hrowget k hk) (by omega) rfl rfl hγv (hγr k hk) hb (by rw [hR1.blk k hk, he]) }
    rw [hdr]
    have hw : Region.wanted o (yielded l.toArray a1.tmps) = true := by simp [Region.wanted, hgd]
    unfold wpList
    rw [if_pos hw]
    refine .inl ?_
    unfold Oper.wp
    rw [r1]
    show wpList P l.toArray Q (l.drop (n1 + 1)) (a1.put o.dst v) w2
    have hkp3 := hkp2.2
    rw [hdr] at hkp3
    obtain ⟨hkp4, hput⟩ := keeps_put hkp3
    cases hq : runQ P N l.toArray [] [] (n1 + 1) (l.drop (n1 + 1)) [(tA, none, .p (.v v))] with
    | none => have := hsuf v; rw [hq] at this; cases this
    | some q =>
    obtain ⟨vq, Eq⟩ := q
    have hs2 := hsuf v
    rw [hq] at hs2
    simp only [Option.bind_some, Option.map_eq_some_iff, Prod.mk.injEq] at hs2
    obtain ⟨Ex, hpx, rfl, rfl⟩ := hs2
    have hEA : SLE F noG [(tA, none, .p (.v v))] (a1.put o.dst v) := by
      rw [hd]
      exact sle_put (dst := some tA) (e := none) (E := []) (fun _ _ _ h => by cases h) s3 hdk (fun _ => .one rfl (.p (.v hone))) (fun h => absurd trivial h)
    have := runQ_keep (P := P) (ks := ks) (rest := []) (Q := Q) (qs_slh (P := P) (N := N) hN2.sub) hEA (by rw [put_size]; exact s3) hq trivial hkp4 fun a3 k1 k2 k3 k4 => (show Q .normal a3 w2 from
      hk v gk rk a3 w2 ⟨sle_app (sle_proj hpx k1) (sle_kept hp (fun t ht => (k4 t ht).trans ((hput a1 v t ht).trans (hk1 t ht))) hS.e), k2, (k3.trans put_defers).trans s4, hN2.sub, hN2⟩)
    rw [List.append_nil] at this
    exact this
  rw [List.take_append_drop] at key
  exact key
end
end Go.Eng
namespace Go.Proofs.Ytjnjmnfacaakfaa
open Go.Eng
theorem newGrid_0 {F : PHeap} {w0 : World} (hs : Sub F w0) (T e : Nat) (len : Nat → Nat) (f : Nat → Nat → Value) : NewGrid F w0 w0 (.slice none 0 0) T e 0 (fun _ => .bool false) (fun _ => 0) len f where
  grew := Grew.refl w0
  sub := hs
  rows := ⟨fun k hk => by omega, fun k hk => by omega, fun j k hj => by omega, fun k hk => by omega⟩
  new := fun k hk => by omega
  outer := .arr0
  apart := fun b hb => by cases hb
theorem refEmpty_ok (b : List (List Piece)) (F : PHeap) (w0 : World) (vb : Value) (hs : Sub F w0) (hb : RelV F noG (.p (eL (eL ePiece 38 dPiece) 1 [] b)) vb) (hn : b.length < 1000) (hm : ∀ k, (b.getD k []).length < 1000) :
    Calls Try.prog 36 #[vb] w0 fun e_ w_ => ∃ v g rb, e_ = .returned v ∧ NewGrid F w0 w_ v 29 4 b.length g rb (lenB b) (fun _ _ => .bool false) := by
  refine calls_of_tq (F := F) (args := [eL (eL ePiece 38 dPiece) 1 [] b]) (vs := [vb]) (G := (fun w_ => NewGrid F w0 w_ (.slice none 0 0) 29 4 0 (fun _ => .bool false) (fun _ => 0) (lenB b) (fun _ _ => .bool false))) (fn := Try.f36) Try.func36 rfl (by kernel_rfl) rfl ?_ hs (newGrid_0 hs _ _ _ _) ?_
  · intro i p v h1 h2
    match i with
    | 0 => cases h1; cases h2; exact hb
  refine tq_seq ?_
  refine tq_reg (vc := []) (E' := [(0, none, .p ((eL (eL ePiece 38 dPiece) 1 []) b))]) [] [0] (by kernel_rfl) ?_ ?_
  · exact trivial
  refine tq_then ?_
  refine tq_seq ?_
  refine tq_reg (vc := []) (E' := [(0, none, .p ((eL (eL ePiece 38 dPiece) 1 []) b)), (3, none, .p (.v (.slice none 0 0)))]) [] [0, 3] (by kernel_rfl) ?_ ?_
  · exact trivial
  refine tq_then ?_
  refine tq_seq ?_
  refine tq_seq ?_
  refine tq_reg (vc := []) (E' := [(0, none, .p ((eL (eL ePiece 38 dPiece) 1 []) b)), (3, none, .p (.v (.slice none 0 0))), (4, none, vint .i64 0)]) [] [0, 3, 4] (by kernel_rfl) ?_ ?_
  · exact trivial
  refine tq_then ?_
  refine tq_block ?_
  refine tq_loop (α := Nat × Value × (Nat → Value) × (Nat → Nat)) (fun z : Nat × Value × (Nat → Value) × (Nat → Nat) => (fun (k : Nat) (ov : Value) (g : Nat → Value) (rb : Nat → Nat) => [(0, none, .p ((eL (eL ePiece 38 dPiece) 1 []) b)), (3, none, .p (.v ov)), (4, none, vint .i64 ((k : Nat) : Int))]) z.1 z.2.1 z.2.2.1 z.2.2.2) (fun z : Nat × Value × (Nat → Value) × (Nat → Nat) => (fun (k : Nat) (ov : Value) (g : Nat → Value) (rb : Nat → Nat) => (fun w_ => NewGrid F w0 w_ ov 29 4 k g rb (lenB b) (fun _ _ => .bool false))) z.1 z.2.1 z.2.2.1 z.2.2.2) (fun z : Nat × Value × (Nat → Value) × (Nat → Nat) => (fun (k : Nat) (ov : Value) (g : Nat → Value) (rb : Nat → Nat) => (k ≤ b.length)) z.1 z.2.1 z.2.2.1 z.2.2.2) (fun z : Nat × Value × (Nat → Value) × (Nat → Nat) => (fun (k : Nat) (ov : Value) (g : Nat → Value) (rb : Nat → Nat) => b.length - k) z.1 z.2.1 z.2.2.1 z.2.2.2) (0, (.slice none 0 0), (fun _ => .bool false), (fun _ => 0)) ?_ ?_ ?_
  · show (0 ≤ b.length)
    · omega
  · intro A_ W_ hS
    replace hS := qs_set (d := vint .i64 0) 4 (vint .i64 ((0 : Nat) : Int)) (by kernel_rfl) (eqD_int (by omega)) hS
    exact qs_g (by exact fun _ h => h) (qs_proj (ts := [0, 3, 4]) (by kernel_rfl) hS)
  · intro z hz
    obtain ⟨k, ov, g, rb⟩ := z
    have hz : (k ≤ b.length) := hz
    have hi0_0 := hz
    have hmk := hm k
    refine tq_seq ?_
    refine tq_seq ?_
    refine tq_reg (vc := []) (E' := [(0, none, .p ((eL (eL ePiece 38 dPiece) 1 []) b)), (3, none, .p (.v ov)), (4, none, vint .i64 ((k : Nat) : Int)), (8, none, vbool (decide (((k : Nat) : Int) < ((b.length : Nat) : Int))))]) [] [0, 3, 4, 8] (by kernel_rfl) ?_ ?_
    · exact trivial
    refine tq_then ?_
    refine tq_condP (decide (((k : Nat) : Int) < ((b.length : Nat) : Int))) (((k : Nat) : Int) < ((b.length : Nat) : Int)) (by simp) (by kernel_rfl) (fun hc1 => ?_) (fun hc1 => ?_)
    · skip
      refine tq_skip ?_
      refine tq_then ?_
      refine tq_seq ?_
      refine tq_block ?_
      refine tqg_push (T := 29) (e := 4) (m := ((b.getD k []).length + 1)) (n := k) (g := g) (rb := rb) (len := lenB b) (f := fun _ _ => .bool false) (w0 := w0) (ov := ov) (vc1 := [(0 : Int) ≤ ((k : Nat) : Int), ((k : Nat) : Int) < (b.length : Int), (IntKind.wrap .i64 ((((b.getD k []).length : Nat) : Int) + 1)) = ((((b.getD k []).length + 1) : Nat) : Int), (0 : Int) ≤ ((((b.getD k []).length + 1) : Nat) : Int), (((((b.getD k []).length + 1) : Nat) : Int) : Int) ≤ ((((b.getD k []).length + 1) : Nat) : Int), (1 : Int) * ((((b.getD k []).length + 1) : Nat) : Int) ≤ 140737488355328, (((((b.getD k []).length + 1) : Nat) : Int) : Int) ≤ 9223372036854775807]) (vcX := [(k + 1) * 24 ≤ 140737488355328]) (E1 := [(11, none, .p (.v ov)), (19, none, .own 1)]) (E3 := [(0, none, .p ((eL (eL ePiece 38 dPiece) 1 []) b)), (4, none, vint .i64 ((k : Nat) : Int))]) (fr := fun _ => .p (.v (.bool false))) (fl := fun j_ => ([.own 0] : List D).getD j_ default) 9 11 19 20 3 [(6, vint .i64 ((((b.getD k []).length + 1) : Nat) : Int))] [11, 19] [0, 4] (by kernel_rfl) ?_ (by kernel_rfl) (by kernel_rfl) (by rfl) ?_ ?_ (fun _ _ => rfl) (by rfl) (by rfl) (by rfl) (by kernel_rfl) ?_ (fun _ _ _ _ => by kernel_rfl) ?_ (fun _ => by kernel_rfl) (by kernel_rfl) (by kernel_rfl) (fun w_ hg => hg) ?_
      · refine al ?_ (al ?_ (al ?_ (al ?_ (al ?_ (al ?_ (al ?_ (trivial)))))))
        · omega
        · omega
        · exact wr64 (by omega) (by omega) (by omega)
        · omega
        · omega
        · omega
        · omega
      · rfl
      · omega
      · intro x_ hx_; simp [Op.operands, Call.operands] at hx_; rcases hx_ with rfl | rfl <;> simp
      · refine al ?_ (trivial)
        · omega -- r5x.0
      intro v_ gk_ rk_
      refine nq_pre (E' := [(0, none, .p ((eL (eL ePiece 38 dPiece) 1 []) b)), (3, none, .p (.v v_)), (4, none, vint .i64 ((k : Nat) : Int))]) (fun a_ w_ hS => qs_proj (ts := [0, 3, 4]) (by kernel_rfl) hS) ?_
      refine qin_n ?_
      refine tq_then ?_
      refine tq_reg (vc := [(IntKind.wrap .i64 (((k : Nat) : Int) + 1)) = (((k + 1) : Nat) : Int)]) (E' := [(0, none, .p ((eL (eL ePiece 38 dPiece) 1 []) b)), (3, none, .p (.v v_)), (4, none, vint .i64 (((k + 1) : Nat) : Int))]) [(1, vint .i64 (((k + 1) : Nat) : Int))] [0, 3, 4] (by kernel_rfl) ?_ ?_
      · refine al ?_ (trivial)
        · exact wr64 (by omega) (by omega) (by omega)
      refine qlp_end ((k + 1), v_, (upd g k gk_), (upd rb k rk_)) ?_ ?_ ?_
      · show ((k + 1) ≤ b.length)
        · omega
      · show b.length - (k + 1) < b.length - k
        omega
      · intro A_ W_ hS
        exact qs_g (by exact fun _ h => h) (qs_proj (ts := [0, 3, 4]) (by kernel_rfl) hS)
    · skip
      refine tq_exit ?_
      refine tqh_e ?_
      refine tqh_e ?_
      refine qin_hit ?_
      refine tq_then ?_
      refine tq_seq ?_
      refine tq_reg (vc := []) (E' := [(2, none, .p (.v ov))]) [] [2] (by kernel_rfl) ?_ ?_
      · exact trivial
      refine tq_then ?_
      refine tq_return (rs := Try.f36.results) (R := fun e_ w_ => ∃ v g rb, e_ = .returned v ∧ NewGrid F w0 w_ v 29 4 b.length g rb (lenB b) (fun _ _ => .bool false)) (vc := []) (ds := [.p (.v ov)]) (by kernel_rfl) trivial (fun _ _ h => h) ?_ -- ret1
      exact fun w_ v_ hr hg => by rw [v_val hr, show b.length = k by omega]; exact ⟨ov, g, rb, rfl, hg⟩
end Go.Proofs.Ytjnjmnfacaakfaa
namespace Go.Proofs.Ytjnjmnfacaakfaa
open Go.Eng
def rowSp (p : List Piece) (S : Nat → Bool) (c : Nat) : Nat → Nat → Bool
  | 0 => fun _ => false
  | i + 1 => if S i = true ∧ (p.getD i dPiece).Set c = true then upd (rowSp p S c i) (if (p.getD i dPiece).More = 42 then i else i + 1) true else rowSp p S c i
def spX (b : List (List Piece)) (X : Nat → Nat → Bool) (c k i : Nat) : Nat → Nat → Bool := fun j => if j < k then rowSp (b.getD j []) (X j) c (b.getD j []).length else if j = k then rowSp (b.getD k []) (X k) c i else fun _ => false
section
variable {b : List (List Piece)} {X : Nat → Nat → Bool} {c k i : Nat}
theorem spX_at : spX b X c k i k = rowSp (b.getD k []) (X k) c i := by
  unfold spX
  rw [if_neg (Nat.lt_irrefl k), if_pos rfl]
theorem spX_0 : spX b X c 0 0 = fun _ _ => false := by
  funext j
  unfold spX
  by_cases h : j = 0
  · subst h; rw [if_neg (by omega), if_pos rfl]; rfl
  · rw [if_neg (by omega), if_neg h]
theorem spX_row : spX b X c k (b.getD k []).length = spX b X c (k + 1) 0 := by
  funext j
  unfold spX
  by_cases h : j < k
  · rw [if_pos h, if_pos (by omega)]
  · by_cases h1 : j = k
    · subst h1; rw [if_neg h, if_pos rfl, if_pos (by omega)]
    · rw [if_neg h, if_neg h1, if_neg (by omega)]
      by_cases h2 : j = k + 1
      · subst h2; rw [if_pos rfl]; rfl
      · rw [if_neg h2]
theorem spX_set {m : Nat} (h : X k i = true ∧ ((b.getD k []).getD i dPiece).Set c = true) (hm : m = if ((b.getD k []).getD i dPiece).More = 42 then i else i + 1) : upd (spX b X c k i) k (upd (spX b X c k i k) m true) = spX b X c k (i + 1) := by
  refine upd_row (fun j hj => ?_) ?_
  · unfold spX
    by_cases h1 : j < k
    · rw [if_pos h1, if_pos h1]
    · rw [if_neg h1, if_neg h1, if_neg hj, if_neg hj]
  · rw [spX_at, spX_at, rowSp, if_pos h, hm]
theorem spX_no (h : ¬ (X k i = true ∧ ((b.getD k []).getD i dPiece).Set c = true)) : spX b X c k i = spX b X c k (i + 1) := by
  funext j
  unfold spX
  rw [rowSp, if_neg h]
end
def stepX (b : List (List Piece)) (X : Nat → Nat → Bool) (c : Nat) : Nat → Nat → Bool := closedX b (spX b X c b.length 0)
theorem wroteAll_trans {n : Nat} {rb : Nat → Nat} {w0 w w' : World} (h : WroteAll n rb w0 w) (k : WroteAll n rb w w') : WroteAll n rb w0 w' :=
  ⟨k.os.trans h.os, k.tape.trans h.tape, k.output.trans h.output, Nat.le_trans h.size k.size, fun b hb hne => (k.block b (Nat.lt_of_lt_of_le hb h.size) hne).trans (h.block b hb hne)⟩
theorem go_sp {a s : Bool} (h : ¬ (a = false ∨ s = false)) : a = true ∧ s = true := by
  rw [not_or] at h
  exact ⟨by cases a <;> simp_all, by cases s <;> simp_all⟩
theorem no_sp {a s : Bool} (h : a = false ∨ s = false) : ¬ (a = true ∧ s = true) := by
  rintro ⟨rfl, rfl⟩
  simp at h
theorem refStep_ok (b : List (List Piece)) (X : Nat → Nat → Bool) (c : Nat) (hc37 : c < 37) (hn : b.length < 1000) (hm : ∀ k, (b.getD k []).length < 1000) :
    Pure Try.prog 38 [eL (eL ePiece 38 dPiece) 1 [] b, eL (eL eB 1 false) 1 [] (GL b.length (lenB b) X), .v (.int .i64 (c : Int))] (.p (eL (eL eB 1 false) 1 [] (GL b.length (lenB b) (stepX b X c)))) := by
  intro F w0 vs hs hlen hrel
  refine calls_of_tq (F := F) (G := fun w_ => w_ = w0) (fn := Try.f38) Try.func38 rfl (by kernel_rfl) hlen hrel hs rfl ?_
  refine tq_seq ?_
  refine tq_reg (vc := []) (E' := [(0, none, .p ((eL (eL ePiece 38 dPiece) 1 []) b)), (1, none, .p ((eL (eL eB 1 false) 1 []) (GL b.length (lenB b) X))), (2, none, vint .i64 ((c : Nat) : Int))]) [] [0, 1, 2] (by kernel_rfl) ?_ ?_
  · exact trivial
  refine tq_then ?_
  refine tq_seq ?_
  refine tq_callF (vc1 := []) (E1 := [(0, none, .p ((eL (eL ePiece 38 dPiece) 1 []) b)), (1, none, .p ((eL (eL eB 1 false) 1 []) (GL b.length (lenB b) X))), (2, none, vint .i64 ((c : Nat) : Int)), (10, none, .p ((eL (eL ePiece 38 dPiece) 1 []) b))]) (f := 36) (t := 11) 1 [] [0, 1, 2, 10] (by kernel_rfl) trivial (by rfl) (by rfl) (by rfl) (by rfl) (by kernel_rfl) (fun v_ w_ => ∃ g rb, NewGrid F w0 w_ v_ 29 4 b.length g rb (lenB b) (fun _ _ => .bool false)) ?_ ?_
  · intro a_ w_ hS_
    obtain rfl : w_ = w0 := hS_.g
    obtain ⟨vb_, e1_, e2_⟩ := qs_slot (t := 10) (by kernel_rfl) hS_
    have h_ := refEmpty_ok b F w_ vb_ hS_.s e2_ hn hm
    rw [← eval_tmp e1_] at h_
    rw [show (#[Operand.tmp 10].map a_.eval) = #[a_.eval (.tmp 10)] from by simp]
    refine h_.mono ?_
    rintro e_ w2_ ⟨v_, g_, rb_, rfl, hN_⟩
    exact ⟨v_, rfl, g_, rb_, hN_⟩
  rintro a1_ v1_ w1 hE1_ hN1_ hD1_ ⟨g, rb, hNG⟩
  refine suffix_q (F2 := addO F v1_ w1) (E' := [(0, none, .p ((eL (eL ePiece 38 dPiece) 1 []) b)), (1, none, .p ((eL (eL eB 1 false) 1 []) (GL b.length (lenB b) X))), (2, none, vint .i64 ((c : Nat) : Int)), (7, none, .p (.lst 1 b.length (fun q_ => .v (g q_))))]) (G2 := fun w_ => CG (addO F v1_ w1) b g rb w1 (spX b X c 0 0) w_) (d := .p (.lst 1 b.length (fun q_ => .v (g q_)))) (vc := []) [] [0, 1, 2, 7] (by kernel_rfl) trivial (by kernel_rfl) hE1_ hN1_ hD1_ hNG.ge hNG.sub' (.one rfl (.p hNG.rest)) ⟨hNG.sub', by rw [spX_0]; exact hNG.rows', WroteAll.refl _ _ _⟩ ?_
  have hF2 : ∀ b_, b_ < w0.heap.size → addO F v1_ w1 b_ = F b_ := fun b_ hb_ => by unfold addO; rw [if_neg]; intro h_; have := (hNG.apart b_ h_).1; omega
  have hgrew := hNG.grew
  have hnew := hNG.new
  generalize addO F v1_ w1 = F2 at hF2 ⊢
  refine tq_then ?_
  refine tq_seq ?_
  refine tq_seq ?_
  refine tq_reg (vc := []) (E' := [(0, none, .p ((eL (eL ePiece 38 dPiece) 1 []) b)), (1, none, .p ((eL (eL eB 1 false) 1 []) (GL b.length (lenB b) X))), (2, none, vint .i64 ((c : Nat) : Int)), (7, none, .p (.lst 1 b.length (fun q_ => .v (g q_)))), (8, none, vint .i64 0)]) [] [0, 1, 2, 7, 8] (by kernel_rfl) ?_ ?_
  · exact trivial
  refine tq_then ?_
  refine tq_block ?_
  refine tq_loop (α := Nat) (fun z : Nat => (fun (k : Nat) => [(0, none, .p ((eL (eL ePiece 38 dPiece) 1 []) b)), (1, none, .p ((eL (eL eB 1 false) 1 []) (GL b.length (lenB b) X))), (2, none, vint .i64 ((c : Nat) : Int)), (7, none, .p (.lst 1 b.length (fun q_ => .v (g q_)))), (8, none, vint .i64 ((k : Nat) : Int))]) z) (fun z : Nat => (fun (k : Nat) => (fun w_ => CG F2 b g rb w1 (spX b X c k 0) w_)) z) (fun z : Nat => (fun (k : Nat) => (k ≤ b.length)) z) (fun z : Nat => (fun (k : Nat) => b.length - k) z) 0 ?_ ?_ ?_
  · show (0 ≤ b.length)
    · omega
  · intro A_ W_ hS
    replace hS := qs_set (d := vint .i64 0) 8 (vint .i64 ((0 : Nat) : Int)) (by kernel_rfl) (eqD_int (by omega)) hS
    exact qs_g (by exact fun _ h => h) (qs_proj (ts := [0, 1, 2, 7, 8]) (by kernel_rfl) hS)
  · intro z hz
    revert z; intro k hz
    have hz : (k ≤ b.length) := hz
    have hi0_0 := hz
    have hmk := hm k
    refine tq_seq ?_
    refine tq_seq ?_
    refine tq_reg (vc := []) (E' := [(0, none, .p ((eL (eL ePiece 38 dPiece) 1 []) b)), (1, none, .p ((eL (eL eB 1 false) 1 []) (GL b.length (lenB b) X))), (2, none, vint .i64 ((c : Nat) : Int)), (7, none, .p (.lst 1 b.length (fun q_ => .v (g q_)))), (8, none, vint .i64 ((k : Nat) : Int)), (15, none, vbool (decide (((k : Nat) : Int) < ((b.length : Nat) : Int))))]) [] [0, 1, 2, 7, 8, 15] (by kernel_rfl) ?_ ?_
    · exact trivial
    refine tq_then ?_
    refine tq_condP (decide (((k : Nat) : Int) < ((b.length : Nat) : Int))) (((k : Nat) : Int) < ((b.length : Nat) : Int)) (by simp) (by kernel_rfl) (fun hc1 => ?_) (fun hc1 => ?_)
    · skip
      refine tq_skip ?_
      refine tq_then ?_
      refine tq_seq ?_
      refine tq_block ?_
      refine tq_seq ?_
      refine tq_reg (vc := []) (E' := [(0, none, .p ((eL (eL ePiece 38 dPiece) 1 []) b)), (1, none, .p ((eL (eL eB 1 false) 1 []) (GL b.length (lenB b) X))), (2, none, vint .i64 ((c : Nat) : Int)), (7, none, .p (.lst 1 b.length (fun q_ => .v (g q_)))), (8, none, vint .i64 ((k : Nat) : Int)), (9, none, vint .i64 0)]) [] [0, 1, 2, 7, 8, 9] (by kernel_rfl) ?_ ?_
      · exact trivial
      refine tq_then ?_
      refine tq_block ?_
      refine tq_loop (α := Nat) (fun z : Nat => (fun (i : Nat) => [(0, none, .p ((eL (eL ePiece 38 dPiece) 1 []) b)), (1, none, .p ((eL (eL eB 1 false) 1 []) (GL b.length (lenB b) X))), (2, none, vint .i64 ((c : Nat) : Int)), (7, none, .p (.lst 1 b.length (fun q_ => .v (g q_)))), (8, none, vint .i64 ((k : Nat) : Int)), (9, none, vint .i64 ((i : Nat) : Int))]) z) (fun z : Nat => (fun (i : Nat) => (fun w_ => CG F2 b g rb w1 (spX b X c k i) w_)) z) (fun z : Nat => (fun (i : Nat) => (i ≤ (b.getD k []).length)) z) (fun z : Nat => (fun (i : Nat) => (b.getD k []).length - i) z) 0 ?_ ?_ ?_
      · show (0 ≤ (b.getD k []).length)
        · omega
      · intro A_ W_ hS
        replace hS := qs_set (d := vint .i64 0) 9 (vint .i64 ((0 : Nat) : Int)) (by kernel_rfl) (eqD_int (by omega)) hS
        exact qs_g (by exact fun _ h => h) (qs_proj (ts := [0, 1, 2, 7, 8, 9]) (by kernel_rfl) hS)
      · intro z hz
        revert z; intro i hz
        have hz : (i ≤ (b.getD k []).length) := hz
        have hi1_0 := hz
        have hlb : lenB b k = (b.getD k []).length + 1 := rfl
        have hgl : (GL b.length (lenB b) X).length = b.length := GL_len
        refine tq_seq ?_
        refine tq_seq ?_
        refine tq_reg (vc := [(0 : Int) ≤ ((k : Nat) : Int), ((k : Nat) : Int) < (b.length : Int)]) (E' := [(0, none, .p ((eL (eL ePiece 38 dPiece) 1 []) b)), (1, none, .p ((eL (eL eB 1 false) 1 []) (GL b.length (lenB b) X))), (2, none, vint .i64 ((c : Nat) : Int)), (7, none, .p (.lst 1 b.length (fun q_ => .v (g q_)))), (8, none, vint .i64 ((k : Nat) : Int)), (9, none, vint .i64 ((i : Nat) : Int)), (24, none, vbool (decide (((i : Nat) : Int) < (((b.getD k []).length : Nat) : Int))))]) [] [0, 1, 2, 7, 8, 9, 24] (by kernel_rfl) ?_ ?_
        · refine al ?_ (al ?_ (trivial))
          · omega
          · omega
        refine tq_then ?_
        refine tq_condP (decide (((i : Nat) : Int) < (((b.getD k []).length : Nat) : Int))) (((i : Nat) : Int) < (((b.getD k []).length : Nat) : Int)) (by simp) (by kernel_rfl) (fun hc2 => ?_) (fun hc2 => ?_)
        · skip
          refine tq_skip ?_
          refine tq_then ?_
          refine tq_seq ?_
          refine tq_block ?_
          refine tq_seq ?_
          refine tq_seq ?_
          refine tq_reg (vc := [(0 : Int) ≤ ((k : Nat) : Int), ((k : Nat) : Int) < ((GL b.length (lenB b) X).length : Int), (0 : Int) ≤ ((i : Nat) : Int), ((i : Nat) : Int) < (((GL b.length (lenB b) X).getD k []).length : Int), (((GL b.length (lenB b) X).getD k []).getD i false) = (X k i), (!(!(X k i))) = true → (!(!(X k i))) = true, (!(!(X k i))) = true → (!(!(X k i))) = true, (!(!(X k i))) = true → ((0 : Int) ≤ ((k : Nat) : Int)), (!(!(X k i))) = true → (((k : Nat) : Int) < (b.length : Int)), (!(!(X k i))) = true → (!(!(X k i))) = true, (!(!(X k i))) = true → (!(!(X k i))) = true, (!(!(X k i))) = true → (!(!(X k i))) = true, (!(!(X k i))) = true → ((0 : Int) ≤ ((i : Nat) : Int)), (!(!(X k i))) = true → (((i : Nat) : Int) < ((b.getD k []).length : Int)), (!(!(X k i))) = true → (!(!(X k i))) = true, (!(!(X k i))) = true → (!(!(X k i))) = true, (!(!(X k i))) = true → (!(!(X k i))) = true, (!(!(X k i))) = true → ((0 : Int) ≤ ((c : Nat) : Int)), (!(!(X k i))) = true → (((c : Nat) : Int) < (37 : Int)), (!(!(X k i))) = true → (!(!(X k i))) = true, (!(!(X k i))) = true → (!(!(X k i))) = true, (!(!(X k i))) = true → (!(!(X k i))) = true]) (E' := [(0, none, .p ((eL (eL ePiece 38 dPiece) 1 []) b)), (1, none, .p ((eL (eL eB 1 false) 1 []) (GL b.length (lenB b) X))), (2, none, vint .i64 ((c : Nat) : Int)), (7, none, .p (.lst 1 b.length (fun q_ => .v (g q_)))), (8, none, vint .i64 ((k : Nat) : Int)), (9, none, vint .i64 ((i : Nat) : Int)), (47, none, vbool ((!(X k i)) || (!((((b.getD k []).getD i dPiece).Set) c))))]) [(6, vbool (X k i))] [0, 1, 2, 7, 8, 9, 47] (by kernel_rfl) ?_ ?_
          · refine al ?_ (al ?_ (al ?_ (al ?_ (al ?_ (al ?_ (al ?_ (al ?_ (al ?_ (al ?_ (al ?_ (al ?_ (al ?_ (al ?_ (al ?_ (al ?_ (al ?_ (al ?_ (al ?_ (al ?_ (al ?_ (al ?_ (trivial))))))))))))))))))))))
            · omega
            · omega
            · omega
            · rw [GL_rlen (by omega)]; omega
            · exact GL_get (by omega) (by omega)
            · exact id
            · exact id
            · omega
            · omega
            · exact id
            · exact id
            · exact id
            · omega
            · omega
            · exact id
            · exact id
            · exact id
            · omega
            · omega
            · exact id
            · exact id
            · exact id
          refine tq_then ?_
          refine tq_condP ((!(X k i)) || (!((((b.getD k []).getD i dPiece).Set) c))) (((X k i) = false) ∨ (((((b.getD k []).getD i dPiece).Set) c) = false)) (by simp) (by kernel_rfl) (fun hc3 => ?_) (fun hc3 => ?_)
          · skip
            refine tq_exit ?_
            refine tqh_e ?_
            refine qin_hit ?_
            refine tq_then ?_
            refine tq_reg (vc := [(IntKind.wrap .i64 (((i : Nat) : Int) + 1)) = (((i + 1) : Nat) : Int)]) (E' := [(0, none, .p ((eL (eL ePiece 38 dPiece) 1 []) b)), (1, none, .p ((eL (eL eB 1 false) 1 []) (GL b.length (lenB b) X))), (2, none, vint .i64 ((c : Nat) : Int)), (7, none, .p (.lst 1 b.length (fun q_ => .v (g q_)))), (8, none, vint .i64 ((k : Nat) : Int)), (9, none, vint .i64 (((i + 1) : Nat) : Int))]) [(1, vint .i64 (((i + 1) : Nat) : Int))] [0, 1, 2, 7, 8, 9] (by kernel_rfl) ?_ ?_
            · refine al ?_ (trivial)
              · exact wr64 (by omega) (by omega) (by omega)
            refine qlp_end (i + 1) ?_ ?_ ?_
            · show ((i + 1) ≤ (b.getD k []).length)
              · omega
            · show (b.getD k []).length - (i + 1) < (b.getD k []).length - i
              omega
            · intro A_ W_ hS
              exact qs_g (by first | exact fun w_ h => h | (exact fun w_ h => by show CG F2 b g rb w1 (spX b X c k (i + 1)) w_; rw [← spX_no (no_sp hc3)]; exact h)) (qs_proj (ts := [0, 1, 2, 7, 8, 9]) (by kernel_rfl) hS)
          · skip
            refine tq_skip ?_
            refine tq_then ?_
            refine tq_seq ?_
            refine tq_reg (vc := [(0 : Int) ≤ ((k : Nat) : Int), ((k : Nat) : Int) < (b.length : Int), (0 : Int) ≤ ((i : Nat) : Int), ((i : Nat) : Int) < ((b.getD k []).length : Int)]) (E' := [(0, none, .p ((eL (eL ePiece 38 dPiece) 1 []) b)), (1, none, .p ((eL (eL eB 1 false) 1 []) (GL b.length (lenB b) X))), (2, none, vint .i64 ((c : Nat) : Int)), (7, none, .p (.lst 1 b.length (fun q_ => .v (g q_)))), (8, none, vint .i64 ((k : Nat) : Int)), (9, none, vint .i64 ((i : Nat) : Int)), (56, none, vbool ((((b.getD k []).getD i dPiece).More) == 42))]) [] [0, 1, 2, 7, 8, 9, 56] (by kernel_rfl) ?_ ?_
            · refine al ?_ (al ?_ (al ?_ (al ?_ (trivial))))
              · omega
              · omega
              · omega
              · omega
            refine tq_then ?_
            refine tq_condP ((((b.getD k []).getD i dPiece).More) == 42) ((((b.getD k []).getD i dPiece).More) = 42) (by simp) (by kernel_rfl) (fun hc4 => ?_) (fun hc4 => ?_)
            · skip
              refine tqg_store (n := b.length) (e := 4) (rb := rb) (len := lenB b) (G' := (fun w_ => CG F2 b g rb w1 (spX b X c k (i + 1)) w_)) (g := g) (f := (fun k_ i_ => .bool (spX b X c k i k_ i_))) (f' := (fun i_ => .bool (upd (spX b X c k i k) (i) true i_))) (vc1 := [(0 : Int) ≤ ((k : Nat) : Int), ((k : Nat) : Int) < (b.length : Int)]) (vc2 := [(0 : Int) ≤ ((i : Nat) : Int), ((i : Nat) : Int) < (lenB b k : Int), i < lenB b k]) (E1 := [(9, none, vint .i64 ((i : Nat) : Int)), (60, none, .p (.v (g k)))]) (f2 := upd (fun x_ => .p (.v ((fun i_ => .bool (spX b X c k i k i_)) x_))) i (.p (.v (.bool true)))) (E3 := [(0, none, .p ((eL (eL ePiece 38 dPiece) 1 []) b)), (1, none, .p ((eL (eL eB 1 false) 1 []) (GL b.length (lenB b) X))), (2, none, vint .i64 ((c : Nat) : Int)), (7, none, .p (.lst 1 b.length (fun q_ => .v (g q_)))), (8, none, vint .i64 ((k : Nat) : Int)), (9, none, vint .i64 ((i : Nat) : Int))]) 4 60 k [] [] [9, 60] [0, 1, 2, 7, 8, 9] (by kernel_rfl) ?_ (by kernel_rfl) (by omega) (by kernel_rfl) ?_ ?_ (by kernel_rfl) (by kernel_rfl) ?_ ?_ ?_
              · refine al ?_ (al ?_ (trivial))
                · omega
                · omega
              · refine al ?_ (al ?_ (al ?_ (trivial)))
                · omega -- r10s.0
                · omega -- r10s.1
                · omega -- r10s.2
              · intro i_ _; unfold upd; by_cases h_ : i_ = i <;> simp [h_]
              · exact fun w_ hg => hg.2.1
              · exact fun w_ w2_ hg hw hs_ hr => ⟨hs_, by have := BRows.set hr; rw [spX_set (go_sp hc3) (by rw [if_pos hc4])] at this; exact this, hg.2.2.next (by omega) hw⟩
              refine qin_n ?_
              refine tq_then ?_
              refine tq_reg (vc := [(IntKind.wrap .i64 (((i : Nat) : Int) + 1)) = (((i + 1) : Nat) : Int)]) (E' := [(0, none, .p ((eL (eL ePiece 38 dPiece) 1 []) b)), (1, none, .p ((eL (eL eB 1 false) 1 []) (GL b.length (lenB b) X))), (2, none, vint .i64 ((c : Nat) : Int)), (7, none, .p (.lst 1 b.length (fun q_ => .v (g q_)))), (8, none, vint .i64 ((k : Nat) : Int)), (9, none, vint .i64 (((i + 1) : Nat) : Int))]) [(1, vint .i64 (((i + 1) : Nat) : Int))] [0, 1, 2, 7, 8, 9] (by kernel_rfl) ?_ ?_
              · refine al ?_ (trivial)
                · exact wr64 (by omega) (by omega) (by omega)
              refine qlp_end (i + 1) ?_ ?_ ?_
              · show ((i + 1) ≤ (b.getD k []).length)
                · omega
              · show (b.getD k []).length - (i + 1) < (b.getD k []).length - i
                omega
              · intro A_ W_ hS
                exact qs_g (by first | exact fun w_ h => h | (exact fun w_ h => by show CG F2 b g rb w1 (spX b X c k (i + 1)) w_; rw [← spX_no (no_sp hc3)]; exact h)) (qs_proj (ts := [0, 1, 2, 7, 8, 9]) (by kernel_rfl) hS)
            · skip
              refine tqg_store (n := b.length) (e := 4) (rb := rb) (len := lenB b) (G' := (fun w_ => CG F2 b g rb w1 (spX b X c k (i + 1)) w_)) (g := g) (f := (fun k_ i_ => .bool (spX b X c k i k_ i_))) (f' := (fun i_ => .bool (upd (spX b X c k i k) ((i + 1)) true i_))) (vc1 := [(0 : Int) ≤ ((k : Nat) : Int), ((k : Nat) : Int) < (b.length : Int)]) (vc2 := [(IntKind.wrap .i64 (((i : Nat) : Int) + 1)) = (((i + 1) : Nat) : Int), (0 : Int) ≤ (((i + 1) : Nat) : Int), (((i + 1) : Nat) : Int) < (lenB b k : Int), (i + 1) < lenB b k]) (E1 := [(9, none, vint .i64 ((i : Nat) : Int)), (66, none, .p (.v (g k)))]) (f2 := upd (fun x_ => .p (.v ((fun i_ => .bool (spX b X c k i k i_)) x_))) (i + 1) (.p (.v (.bool true)))) (E3 := [(0, none, .p ((eL (eL ePiece 38 dPiece) 1 []) b)), (1, none, .p ((eL (eL eB 1 false) 1 []) (GL b.length (lenB b) X))), (2, none, vint .i64 ((c : Nat) : Int)), (7, none, .p (.lst 1 b.length (fun q_ => .v (g q_)))), (8, none, vint .i64 ((k : Nat) : Int)), (9, none, vint .i64 ((i : Nat) : Int))]) 4 66 k [] [(5, vint .i64 (((i + 1) : Nat) : Int))] [9, 66] [0, 1, 2, 7, 8, 9] (by kernel_rfl) ?_ (by kernel_rfl) (by omega) (by kernel_rfl) ?_ ?_ (by kernel_rfl) (by kernel_rfl) ?_ ?_ ?_
              · refine al ?_ (al ?_ (trivial))
                · omega
                · omega
              · refine al ?_ (al ?_ (al ?_ (al ?_ (trivial))))
                · exact wr64 (by omega) (by omega) (by omega) -- r11s.0
                · omega -- r11s.1
                · omega -- r11s.2
                · omega -- r11s.3
              · intro i_ _; unfold upd; by_cases h_ : i_ = (i + 1) <;> simp [h_]
              · exact fun w_ hg => hg.2.1
              · exact fun w_ w2_ hg hw hs_ hr => ⟨hs_, by have := BRows.set hr; rw [spX_set (go_sp hc3) (by rw [if_neg hc4])] at this; exact this, hg.2.2.next (by omega) hw⟩
              refine qin_n ?_
              refine tq_then ?_
              refine tq_reg (vc := [(IntKind.wrap .i64 (((i : Nat) : Int) + 1)) = (((i + 1) : Nat) : Int)]) (E' := [(0, none, .p ((eL (eL ePiece 38 dPiece) 1 []) b)), (1, none, .p ((eL (eL eB 1 false) 1 []) (GL b.length (lenB b) X))), (2, none, vint .i64 ((c : Nat) : Int)), (7, none, .p (.lst 1 b.length (fun q_ => .v (g q_)))), (8, none, vint .i64 ((k : Nat) : Int)), (9, none, vint .i64 (((i + 1) : Nat) : Int))]) [(1, vint .i64 (((i + 1) : Nat) : Int))] [0, 1, 2, 7, 8, 9] (by kernel_rfl) ?_ ?_
              · refine al ?_ (trivial)
                · exact wr64 (by omega) (by omega) (by omega)
              refine qlp_end (i + 1) ?_ ?_ ?_
              · show ((i + 1) ≤ (b.getD k []).length)
                · omega
              · show (b.getD k []).length - (i + 1) < (b.getD k []).length - i
                omega
              · intro A_ W_ hS
                exact qs_g (by first | exact fun w_ h => h | (exact fun w_ h => by show CG F2 b g rb w1 (spX b X c k (i + 1)) w_; rw [← spX_no (no_sp hc3)]; exact h)) (qs_proj (ts := [0, 1, 2, 7, 8, 9]) (by kernel_rfl) hS)
        · skip
          refine tq_exit ?_
          refine tqh_e ?_
          refine tqh_e ?_
          refine qin_hit ?_
          refine qin_n ?_
          refine tq_then ?_
          refine tq_reg (vc := [(IntKind.wrap .i64 (((k : Nat) : Int) + 1)) = (((k + 1) : Nat) : Int)]) (E' := [(0, none, .p ((eL (eL ePiece 38 dPiece) 1 []) b)), (1, none, .p ((eL (eL eB 1 false) 1 []) (GL b.length (lenB b) X))), (2, none, vint .i64 ((c : Nat) : Int)), (7, none, .p (.lst 1 b.length (fun q_ => .v (g q_)))), (8, none, vint .i64 (((k + 1) : Nat) : Int))]) [(1, vint .i64 (((k + 1) : Nat) : Int))] [0, 1, 2, 7, 8] (by kernel_rfl) ?_ ?_
          · refine al ?_ (trivial)
            · exact wr64 (by omega) (by omega) (by omega)
          refine qlp_end (k + 1) ?_ ?_ ?_
          · show ((k + 1) ≤ b.length)
            · omega
          · show b.length - (k + 1) < b.length - k
            omega
          · intro A_ W_ hS
            exact qs_g (by exact fun w_ h => by show CG F2 b g rb w1 (spX b X c (k + 1) 0) w_; rw [← spX_row, show (b.getD k []).length = i by omega]; exact h) (qs_proj (ts := [0, 1, 2, 7, 8]) (by kernel_rfl) hS)
    · skip
      refine tq_exit ?_
      refine tqh_e ?_
      refine tqh_e ?_
      refine qin_hit ?_
      refine tq_then ?_
      refine tq_seq ?_
      refine tq_callF (vc1 := []) (E1 := [(70, none, .p ((eL (eL ePiece 38 dPiece) 1 []) b)), (71, none, .p (.lst 1 b.length (fun q_ => .v (g q_))))]) (f := 37) (t := 72) 2 [] [70, 71] (by kernel_rfl) trivial (by rfl) (by rfl) (by rfl) (by rfl) (by kernel_rfl) (fun v_ w_ => RelP F2 (.lst 1 b.length (fun k => .v (g k))) [v_] ∧ CG F2 b g rb w1 (closedX b (spX b X c k 0)) w_) ?_ ?_
      · intro a_ w_ hS_
        obtain ⟨vb_, e1_, e2_⟩ := qs_slot (t := 70) (by kernel_rfl) hS_
        obtain ⟨xv_, e3_, e4_⟩ := qs_slot (t := 71) (by kernel_rfl) hS_
        have h_ := refClosed_ok b (spX b X c k 0) F2 w_ vb_ xv_ g rb hS_.s e2_ (relV_p e4_ rfl) hS_.g.2.1 hn hm
        rw [← eval_tmp e1_, ← eval_tmp e3_] at h_
        rw [show (#[Operand.tmp 70, Operand.tmp 71].map a_.eval) = #[a_.eval (.tmp 70), a_.eval (.tmp 71)] from by simp]
        refine h_.mono ?_
        rintro e_ w2_ ⟨v_, rfl, hp_, hC_⟩
        exact ⟨v_, rfl, hp_, hC_.1, hC_.2.1, wroteAll_trans hS_.g.2.2 hC_.2.2⟩
      rintro a1_ v1_ w2 hE1_ hN1_ hD1_ ⟨hp_, hC_⟩
      refine suffix_q (F2 := F2) (E' := [(6, none, .p (.lst 1 b.length (fun q_ => .v (g q_))))]) (G2 := fun w_ => CG F2 b g rb w1 (closedX b (spX b X c k 0)) w_) (d := .p (.lst 1 b.length (fun q_ => .v (g q_)))) (vc := []) [] [6] (by kernel_rfl) trivial (by kernel_rfl) hE1_ hN1_ hD1_ (fun _ _ h => h) hC_.1 (.one rfl (.p hp_)) hC_ ?_
      refine tq_then ?_
      refine tq_return (rs := Try.f38.results) (R := fun e_ w_ => ∃ v F_, e_ = .returned v ∧ Sub F_ w_ ∧ (∀ b_, b_ < w0.heap.size → F_ b_ = F b_) ∧ Grew w0 w_ ∧ RelV F_ noG (.p (eL (eL eB 1 false) 1 [] (GL b.length (lenB b) (stepX b X c)))) v) (vc := []) (ds := [.p (.lst 1 b.length (fun q_ => .v (g q_)))]) (by kernel_rfl) trivial (fun _ _ h => h) ?_ -- ret1
      exact fun w_ v_ hr hg => ⟨v_, addW F2 b.length rb w_, rfl, addW_sub hg.1, fun b_ hb_ => by rw [addW_old (fun q_ hq_ => by have := hnew q_ hq_; omega)]; exact hF2 b_ hb_, hg.2.2.grew hgrew hnew, .one rfl (.p (by rw [stepX, show spX b X c b.length 0 = spX b X c k 0 by rw [show b.length = k by omega]]; exact brows_rest hg.2.1 (relV_p hr rfl)))⟩
end Go.Proofs.Ytjnjmnfacaakfaa
namespace Go.Proofs.Ytjnjmnfacaakfaa
open Go.Eng
def noneP (x : List (List Bool)) : Prop := ∀ j, j < x.length → ∀ i, i < (x.getD j []).length → (x.getD j []).getD i false = false
instance (x : List (List Bool)) : Decidable (noneP x) := inferInstanceAs (Decidable (∀ j, j < x.length → ∀ i, i < (x.getD j []).length → (x.getD j []).getD i false = false))
def sameP (x y : List (List Bool)) : Prop := ∀ j, j < x.length → ∀ i, i < (x.getD j []).length → (x.getD j []).getD i false = (y.getD j []).getD i false
instance (x y : List (List Bool)) : Decidable (sameP x y) := inferInstanceAs (Decidable (∀ j, j < x.length → ∀ i, i < (x.getD j []).length → (x.getD j []).getD i false = (y.getD j []).getD i false))
def Shape (x y : List (List Bool)) : Prop := x.length = y.length ∧ ∀ j, (x.getD j []).length = (y.getD j []).length
def findL (x : List (List Bool)) : List (List (List Bool)) → Int → Int
  | [], _ => -1
  | y :: l, i => if sameP y x then i else findL x l (i + 1)
theorem findL_step {x : List (List Bool)} {l : List (List (List Bool))} {i : Nat} (h : i < l.length) : findL x (l.drop i) (i : Int) = if sameP (l.getD i []) x then (i : Int) else findL x (l.drop (i + 1)) ((i + 1 : Nat) : Int) := by
  rw [drop_get (d := []) h, findL]
  rfl
theorem none_ok (x : List (List Bool)) (hb0 : x.length < 4611686018427387904) (hb1 : ∀ j, (x.getD j []).length < 4611686018427387904) : Pure Try.prog 39 [(eL (eL eB 1 false) 1 []) x] (vbool (decide (noneP x))) := by
  refine pure_of (fn := Try.f39) Try.func39 rfl rfl fun F_ W0_ => ?_
  refine tr_seq ?_
  refine tr_r (vc := []) (E' := [(0, none, .p ((eL (eL eB 1 false) 1 []) x))]) (H' := []) [] [] [0] (by kernel_rfl) ?_ ?_
  · exact trivial
  refine tr_then (tr_seq ?_)
  refine tr_seq ?_
  refine tr_r (vc := []) (E' := [(0, none, .p ((eL (eL eB 1 false) 1 []) x)), (3, none, vint .i64 0)]) (H' := []) [] [] [0, 3] (by kernel_rfl) ?_ ?_
  · exact trivial
  refine tr_then ?_
  refine tr_block ?_
  refine tr_loop (α := Nat) (fun z : Nat => (fun (k : Nat) => [(0, none, .p ((eL (eL eB 1 false) 1 []) x)), (3, none, vint .i64 ((k : Nat) : Int))]) z) (fun z : Nat => (fun (k : Nat) => []) z) (fun z : Nat => (fun (k : Nat) => (k ≤ x.length) ∧ (∀ j, j < k → ∀ i, i < (x.getD j []).length → (x.getD j []).getD i false = false)) z) (fun z : Nat => (fun (k : Nat) => x.length - k) z) 0 ?_ ?_ ?_
  · show (0 ≤ x.length) ∧ (∀ j, j < 0 → ∀ i, i < (x.getD j []).length → (x.getD j []).getD i false = false)
    refine ⟨?_, ?_⟩
    · omega
    · omega
  · intro A_ W_ hS
    replace hS := sl_set (d := vint .i64 0) 3 (vint .i64 ((0 : Nat) : Int)) (by kernel_rfl) (eqD_int (by omega)) hS
    exact sl_weak (vc := []) [] [0, 3] (by kernel_rfl) trivial hS
  · intro z hz
    revert z; intro k hz
    have hz : (k ≤ x.length) ∧ (∀ j, j < k → ∀ i, i < (x.getD j []).length → (x.getD j []).getD i false = false) := hz
    obtain ⟨hi0_0, hi0_1⟩ := hz
    have hbk := hb1 k
    refine tr_seq ?_
    refine tr_seq ?_
    refine tr_r (vc := []) (E' := [(0, none, .p ((eL (eL eB 1 false) 1 []) x)), (3, none, vint .i64 ((k : Nat) : Int)), (8, none, vbool (decide (((k : Nat) : Int) < ((x.length : Nat) : Int))))]) (H' := []) [] [] [0, 3, 8] (by kernel_rfl) ?_ ?_
    · exact trivial
    refine tr_then ?_
    refine tr_condP (decide (((k : Nat) : Int) < ((x.length : Nat) : Int))) (((k : Nat) : Int) < ((x.length : Nat) : Int)) (by simp) (by kernel_rfl) (fun hc1 => ?_) (fun hc1 => ?_)
    · skip
      refine tr_skip ?_
      refine tr_then (tr_seq ?_)
      refine tr_block ?_
      refine tr_seq ?_
      refine tr_r (vc := []) (E' := [(0, none, .p ((eL (eL eB 1 false) 1 []) x)), (3, none, vint .i64 ((k : Nat) : Int)), (4, none, vint .i64 0)]) (H' := []) [] [] [0, 3, 4] (by kernel_rfl) ?_ ?_
      · exact trivial
      refine tr_then ?_
      refine tr_block ?_
      refine tr_loop (α := Nat) (fun z : Nat => (fun (m : Nat) => [(0, none, .p ((eL (eL eB 1 false) 1 []) x)), (3, none, vint .i64 ((k : Nat) : Int)), (4, none, vint .i64 ((m : Nat) : Int))]) z) (fun z : Nat => (fun (m : Nat) => []) z) (fun z : Nat => (fun (m : Nat) => (m ≤ (x.getD k []).length) ∧ (∀ i, i < m → (x.getD k []).getD i false = false)) z) (fun z : Nat => (fun (m : Nat) => (x.getD k []).length - m) z) 0 ?_ ?_ ?_
      · show (0 ≤ (x.getD k []).length) ∧ (∀ i, i < 0 → (x.getD k []).getD i false = false)
        refine ⟨?_, ?_⟩
        · omega
        · omega
      · intro A_ W_ hS
        replace hS := sl_set (d := vint .i64 0) 4 (vint .i64 ((0 : Nat) : Int)) (by kernel_rfl) (eqD_int (by omega)) hS
        exact sl_weak (vc := []) [] [0, 3, 4] (by kernel_rfl) trivial hS
      · intro z hz
        revert z; intro m hz
        have hz : (m ≤ (x.getD k []).length) ∧ (∀ i, i < m → (x.getD k []).getD i false = false) := hz
        obtain ⟨hi1_0, hi1_1⟩ := hz
        refine tr_seq ?_
        refine tr_seq ?_
        refine tr_r (vc := [(0 : Int) ≤ ((k : Nat) : Int), ((k : Nat) : Int) < (x.length : Int)]) (E' := [(0, none, .p ((eL (eL eB 1 false) 1 []) x)), (3, none, vint .i64 ((k : Nat) : Int)), (4, none, vint .i64 ((m : Nat) : Int)), (17, none, vbool (decide (((m : Nat) : Int) < (((x.getD k []).length : Nat) : Int))))]) (H' := []) [] [] [0, 3, 4, 17] (by kernel_rfl) ?_ ?_
        · refine al ?_ (al ?_ (trivial))
          · omega
          · omega
        refine tr_then ?_
        refine tr_condP (decide (((m : Nat) : Int) < (((x.getD k []).length : Nat) : Int))) (((m : Nat) : Int) < (((x.getD k []).length : Nat) : Int)) (by simp) (by kernel_rfl) (fun hc2 => ?_) (fun hc2 => ?_)
        · skip
          refine tr_skip ?_
          refine tr_then (tr_seq ?_)
          refine tr_block ?_
          refine tr_seq ?_
          refine tr_r (vc := [(0 : Int) ≤ ((k : Nat) : Int), ((k : Nat) : Int) < (x.length : Int), (0 : Int) ≤ ((m : Nat) : Int), ((m : Nat) : Int) < ((x.getD k []).length : Int)]) (E' := [(0, none, .p ((eL (eL eB 1 false) 1 []) x)), (3, none, vint .i64 ((k : Nat) : Int)), (4, none, vint .i64 ((m : Nat) : Int)), (26, none, vbool ((x.getD k []).getD m false))]) (H' := []) [] [] [0, 3, 4, 26] (by kernel_rfl) ?_ ?_
          · refine al ?_ (al ?_ (al ?_ (al ?_ (trivial))))
            · omega
            · omega
            · omega
            · omega
          refine tr_then ?_
          refine tr_cond ((x.getD k []).getD m false) (by kernel_rfl) (fun hc3 => ?_) (fun hc3 => ?_)
          · skip
            refine tr_seq ?_
            refine tr_r (vc := []) (E' := [(2, none, vbool false)]) (H' := []) [] [] [2] (by kernel_rfl) ?_ ?_
            · exact trivial
            refine tr_then ?_
            refine tr_pre (E' := (2, none, vbool (decide (noneP x))) :: [(2, none, vbool false)]) (H' := []) (fun A_ W_ hS => sl_set_imp (d := vbool false) 2 (vbool (decide (noneP x))) (by kernel_rfl) ?_ hS) ?_
            · refine imp_eq (congrArg (fun x => D.p (eB x)) (a₁ := false) (a₂ := (decide (noneP x))) ?_)
              exact (decide_eq_false (fun h => by have := h k (by omega) m (by omega); rw [this] at hc3; cases hc3)).symm
            refine tr_pre (E' := [(2, none, vbool (decide (noneP x)))]) (H' := []) (fun A_ W_ hS => sl_proj (ts := [2]) (by kernel_rfl) hS) ?_
            exact tr_return' (vc := []) (ds := [vbool (decide (noneP x))]) (by kernel_rfl) trivial (by kernel_rfl) (fun _ _ h => h)
          · skip
            refine tr_skip ?_
            refine in_n ?_
            refine tr_then ?_
            refine tr_r (vc := [(IntKind.wrap .i64 (((m : Nat) : Int) + 1)) = (((m + 1) : Nat) : Int)]) (E' := [(0, none, .p ((eL (eL eB 1 false) 1 []) x)), (3, none, vint .i64 ((k : Nat) : Int)), (4, none, vint .i64 (((m + 1) : Nat) : Int))]) (H' := []) [(1, vint .i64 (((m + 1) : Nat) : Int))] [] [0, 3, 4] (by kernel_rfl) ?_ ?_
            · refine al ?_ (trivial)
              · exact wr64 (by omega) (by omega) (by omega)
            refine lp_end (m + 1) ?_ ?_ ?_
            · show ((m + 1) ≤ (x.getD k []).length) ∧ (∀ i, i < (m + 1) → (x.getD k []).getD i false = false)
              refine ⟨?_, ?_⟩
              · omega
              · exact fun j hj => (by by_cases e : j = m; (subst e; simpa using hc3); exact hi1_1 j (by omega))
            · show (x.getD k []).length - (m + 1) < (x.getD k []).length - m
              omega
            · intro A_ W_ hS
              exact sl_weak (vc := []) [] [0, 3, 4] (by kernel_rfl) trivial hS
        · skip
          refine tr_exit ?_
          refine th_e ?_
          refine th_e ?_
          refine in_hit ?_
          refine in_n ?_
          refine tr_then ?_
          refine tr_r (vc := [(IntKind.wrap .i64 (((k : Nat) : Int) + 1)) = (((k + 1) : Nat) : Int)]) (E' := [(0, none, .p ((eL (eL eB 1 false) 1 []) x)), (3, none, vint .i64 (((k + 1) : Nat) : Int))]) (H' := []) [(1, vint .i64 (((k + 1) : Nat) : Int))] [] [0, 3] (by kernel_rfl) ?_ ?_
          · refine al ?_ (trivial)
            · exact wr64 (by omega) (by omega) (by omega)
          refine lp_end (k + 1) ?_ ?_ ?_
          · show ((k + 1) ≤ x.length) ∧ (∀ j, j < (k + 1) → ∀ i, i < (x.getD j []).length → (x.getD j []).getD i false = false)
            refine ⟨?_, ?_⟩
            · omega
            · exact fun j hj => (by by_cases e : j = k; (subst e; exact fun i hi => hi1_1 i (by omega)); exact hi0_1 j (by omega))
          · show x.length - (k + 1) < x.length - k
            omega
          · intro A_ W_ hS
            exact sl_weak (vc := []) [] [0, 3] (by kernel_rfl) trivial hS
    · skip
      refine tr_exit ?_
      refine th_e ?_
      refine th_e ?_
      refine in_hit ?_
      refine tr_then (tr_seq ?_)
      refine tr_r (vc := []) (E' := [(2, none, vbool true)]) (H' := []) [] [] [2] (by kernel_rfl) ?_ ?_
      · exact trivial
      refine tr_then ?_
      refine tr_pre (E' := (2, none, vbool (decide (noneP x))) :: [(2, none, vbool true)]) (H' := []) (fun A_ W_ hS => sl_set_imp (d := vbool true) 2 (vbool (decide (noneP x))) (by kernel_rfl) ?_ hS) ?_
      · refine imp_eq (congrArg (fun x => D.p (eB x)) (a₁ := true) (a₂ := (decide (noneP x))) ?_)
        exact (decide_eq_true (fun j hj i hi => hi0_1 j (by omega) i hi)).symm
      refine tr_pre (E' := [(2, none, vbool (decide (noneP x)))]) (H' := []) (fun A_ W_ hS => sl_proj (ts := [2]) (by kernel_rfl) hS) ?_
      exact tr_return' (vc := []) (ds := [vbool (decide (noneP x))]) (by kernel_rfl) trivial (by kernel_rfl) (fun _ _ h => h)
theorem sameR_ok (x : List (List Bool)) (y : List (List Bool)) (hb0 : x.length < 4611686018427387904) (hb1 : ∀ j, (x.getD j []).length < 4611686018427387904) (hs : Shape x y) : Pure Try.prog 48 [(eL (eL eB 1 false) 1 []) x, (eL (eL eB 1 false) 1 []) y] (vbool (decide (sameP x y))) := by
  refine pure_of (fn := Try.f48) Try.func48 rfl rfl fun F_ W0_ => ?_
  refine tr_seq ?_
  refine tr_r (vc := []) (E' := [(0, none, .p ((eL (eL eB 1 false) 1 []) x)), (1, none, .p ((eL (eL eB 1 false) 1 []) y))]) (H' := []) [] [] [0, 1] (by kernel_rfl) ?_ ?_
  · exact trivial
  refine tr_then (tr_seq ?_)
  refine tr_seq ?_
  refine tr_r (vc := []) (E' := [(0, none, .p ((eL (eL eB 1 false) 1 []) x)), (1, none, .p ((eL (eL eB 1 false) 1 []) y)), (5, none, vint .i64 0)]) (H' := []) [] [] [0, 1, 5] (by kernel_rfl) ?_ ?_
  · exact trivial
  refine tr_then ?_
  refine tr_block ?_
  refine tr_loop (α := Nat) (fun z : Nat => (fun (k : Nat) => [(0, none, .p ((eL (eL eB 1 false) 1 []) x)), (1, none, .p ((eL (eL eB 1 false) 1 []) y)), (5, none, vint .i64 ((k : Nat) : Int))]) z) (fun z : Nat => (fun (k : Nat) => []) z) (fun z : Nat => (fun (k : Nat) => (k ≤ x.length) ∧ (∀ j, j < k → ∀ i, i < (x.getD j []).length → (x.getD j []).getD i false = (y.getD j []).getD i false)) z) (fun z : Nat => (fun (k : Nat) => x.length - k) z) 0 ?_ ?_ ?_
  · show (0 ≤ x.length) ∧ (∀ j, j < 0 → ∀ i, i < (x.getD j []).length → (x.getD j []).getD i false = (y.getD j []).getD i false)
    refine ⟨?_, ?_⟩
    · omega
    · omega
  · intro A_ W_ hS
    replace hS := sl_set (d := vint .i64 0) 5 (vint .i64 ((0 : Nat) : Int)) (by kernel_rfl) (eqD_int (by omega)) hS
    exact sl_weak (vc := []) [] [0, 1, 5] (by kernel_rfl) trivial hS
  · intro z hz
    revert z; intro k hz
    have hz : (k ≤ x.length) ∧ (∀ j, j < k → ∀ i, i < (x.getD j []).length → (x.getD j []).getD i false = (y.getD j []).getD i false) := hz
    obtain ⟨hi0_0, hi0_1⟩ := hz
    have hbk := hb1 k
    have hs1 := hs.1
    have hs2 := hs.2 k
    refine tr_seq ?_
    refine tr_seq ?_
    refine tr_r (vc := []) (E' := [(0, none, .p ((eL (eL eB 1 false) 1 []) x)), (1, none, .p ((eL (eL eB 1 false) 1 []) y)), (5, none, vint .i64 ((k : Nat) : Int)), (10, none, vbool (decide (((k : Nat) : Int) < ((x.length : Nat) : Int))))]) (H' := []) [] [] [0, 1, 5, 10] (by kernel_rfl) ?_ ?_
    · exact trivial
    refine tr_then ?_
    refine tr_condP (decide (((k : Nat) : Int) < ((x.length : Nat) : Int))) (((k : Nat) : Int) < ((x.length : Nat) : Int)) (by simp) (by kernel_rfl) (fun hc1 => ?_) (fun hc1 => ?_)
    · skip
      refine tr_skip ?_
      refine tr_then (tr_seq ?_)
      refine tr_block ?_
      refine tr_seq ?_
      refine tr_r (vc := []) (E' := [(0, none, .p ((eL (eL eB 1 false) 1 []) x)), (1, none, .p ((eL (eL eB 1 false) 1 []) y)), (5, none, vint .i64 ((k : Nat) : Int)), (6, none, vint .i64 0)]) (H' := []) [] [] [0, 1, 5, 6] (by kernel_rfl) ?_ ?_
      · exact trivial
      refine tr_then ?_
      refine tr_block ?_
      refine tr_loop (α := Nat) (fun z : Nat => (fun (m : Nat) => [(0, none, .p ((eL (eL eB 1 false) 1 []) x)), (1, none, .p ((eL (eL eB 1 false) 1 []) y)), (5, none, vint .i64 ((k : Nat) : Int)), (6, none, vint .i64 ((m : Nat) : Int))]) z) (fun z : Nat => (fun (m : Nat) => []) z) (fun z : Nat => (fun (m : Nat) => (m ≤ (x.getD k []).length) ∧ (∀ i, i < m → (x.getD k []).getD i false = (y.getD k []).getD i false)) z) (fun z : Nat => (fun (m : Nat) => (x.getD k []).length - m) z) 0 ?_ ?_ ?_
      · show (0 ≤ (x.getD k []).length) ∧ (∀ i, i < 0 → (x.getD k []).getD i false = (y.getD k []).getD i false)
        refine ⟨?_, ?_⟩
        · omega
        · omega
      · intro A_ W_ hS
        replace hS := sl_set (d := vint .i64 0) 6 (vint .i64 ((0 : Nat) : Int)) (by kernel_rfl) (eqD_int (by omega)) hS
        exact sl_weak (vc := []) [] [0, 1, 5, 6] (by kernel_rfl) trivial hS
      · intro z hz
        revert z; intro m hz
        have hz : (m ≤ (x.getD k []).length) ∧ (∀ i, i < m → (x.getD k []).getD i false = (y.getD k []).getD i false) := hz
        obtain ⟨hi1_0, hi1_1⟩ := hz
        refine tr_seq ?_
        refine tr_seq ?_
        refine tr_r (vc := [(0 : Int) ≤ ((k : Nat) : Int), ((k : Nat) : Int) < (x.length : Int)]) (E' := [(0, none, .p ((eL (eL eB 1 false) 1 []) x)), (1, none, .p ((eL (eL eB 1 false) 1 []) y)), (5, none, vint .i64 ((k : Nat) : Int)), (6, none, vint .i64 ((m : Nat) : Int)), (19, none, vbool (decide (((m : Nat) : Int) < (((x.getD k []).length : Nat) : Int))))]) (H' := []) [] [] [0, 1, 5, 6, 19] (by kernel_rfl) ?_ ?_
        · refine al ?_ (al ?_ (trivial))
          · omega
          · omega
        refine tr_then ?_
        refine tr_condP (decide (((m : Nat) : Int) < (((x.getD k []).length : Nat) : Int))) (((m : Nat) : Int) < (((x.getD k []).length : Nat) : Int)) (by simp) (by kernel_rfl) (fun hc2 => ?_) (fun hc2 => ?_)
        · skip
          refine tr_skip ?_
          refine tr_then (tr_seq ?_)
          refine tr_block ?_
          refine tr_seq ?_
          refine tr_d (vc := [(0 : Int) ≤ ((k : Nat) : Int), ((k : Nat) : Int) < (x.length : Int), (0 : Int) ≤ ((m : Nat) : Int), ((m : Nat) : Int) < ((x.getD k []).length : Int), (0 : Int) ≤ ((k : Nat) : Int), ((k : Nat) : Int) < (y.length : Int), (0 : Int) ≤ ((m : Nat) : Int), ((m : Nat) : Int) < ((y.getD k []).length : Int)]) (E' := [(0, none, .p ((eL (eL eB 1 false) 1 []) x)), (1, none, .p ((eL (eL eB 1 false) 1 []) y)), (5, none, vint .i64 ((k : Nat) : Int)), (6, none, vint .i64 ((m : Nat) : Int)), (36, none, vbool (!(((x.getD k []).getD m false) == ((y.getD k []).getD m false))))]) [] [] [0, 1, 5, 6, 36] (by kernel_rfl) (by kernel_rfl) (by kernel_rfl) ?_ ?_
          · refine al ?_ (al ?_ (al ?_ (al ?_ (al ?_ (al ?_ (al ?_ (al ?_ (trivial))))))))
            · omega
            · omega
            · omega
            · omega
            · omega
            · omega
            · omega
            · omega
          refine tr_then ?_
          refine tr_condP (!(((x.getD k []).getD m false) == ((y.getD k []).getD m false))) (¬ ((x.getD k []).getD m false) = ((y.getD k []).getD m false)) (by simp) (by kernel_rfl) (fun hc3 => ?_) (fun hc3 => ?_)
          · skip
            refine tr_seq ?_
            refine tr_r (vc := []) (E' := [(4, none, vbool false)]) (H' := []) [] [] [4] (by kernel_rfl) ?_ ?_
            · exact trivial
            refine tr_then ?_
            refine tr_pre (E' := (4, none, vbool (decide (sameP x y))) :: [(4, none, vbool false)]) (H' := []) (fun A_ W_ hS => sl_set_imp (d := vbool false) 4 (vbool (decide (sameP x y))) (by kernel_rfl) ?_ hS) ?_
            · refine imp_eq (congrArg (fun x => D.p (eB x)) (a₁ := false) (a₂ := (decide (sameP x y))) ?_)
              exact (decide_eq_false (fun h => hc3 (h k (by omega) m (by omega)))).symm
            refine tr_pre (E' := [(4, none, vbool (decide (sameP x y)))]) (H' := []) (fun A_ W_ hS => sl_proj (ts := [4]) (by kernel_rfl) hS) ?_
            exact tr_return' (vc := []) (ds := [vbool (decide (sameP x y))]) (by kernel_rfl) trivial (by kernel_rfl) (fun _ _ h => h)
          · skip
            refine tr_skip ?_
            refine in_n ?_
            refine tr_then ?_
            refine tr_r (vc := [(IntKind.wrap .i64 (((m : Nat) : Int) + 1)) = (((m + 1) : Nat) : Int)]) (E' := [(0, none, .p ((eL (eL eB 1 false) 1 []) x)), (1, none, .p ((eL (eL eB 1 false) 1 []) y)), (5, none, vint .i64 ((k : Nat) : Int)), (6, none, vint .i64 (((m + 1) : Nat) : Int))]) (H' := []) [(1, vint .i64 (((m + 1) : Nat) : Int))] [] [0, 1, 5, 6] (by kernel_rfl) ?_ ?_
            · refine al ?_ (trivial)
              · exact wr64 (by omega) (by omega) (by omega)
            refine lp_end (m + 1) ?_ ?_ ?_
            · show ((m + 1) ≤ (x.getD k []).length) ∧ (∀ i, i < (m + 1) → (x.getD k []).getD i false = (y.getD k []).getD i false)
              refine ⟨?_, ?_⟩
              · omega
              · exact fun j hj => (by by_cases e : j = m; (subst e; simpa using hc3); exact hi1_1 j (by omega))
            · show (x.getD k []).length - (m + 1) < (x.getD k []).length - m
              omega
            · intro A_ W_ hS
              exact sl_weak (vc := []) [] [0, 1, 5, 6] (by kernel_rfl) trivial hS
        · skip
          refine tr_exit ?_
          refine th_e ?_
          refine th_e ?_
          refine in_hit ?_
          refine in_n ?_
          refine tr_then ?_
          refine tr_r (vc := [(IntKind.wrap .i64 (((k : Nat) : Int) + 1)) = (((k + 1) : Nat) : Int)]) (E' := [(0, none, .p ((eL (eL eB 1 false) 1 []) x)), (1, none, .p ((eL (eL eB 1 false) 1 []) y)), (5, none, vint .i64 (((k + 1) : Nat) : Int))]) (H' := []) [(1, vint .i64 (((k + 1) : Nat) : Int))] [] [0, 1, 5] (by kernel_rfl) ?_ ?_
          · refine al ?_ (trivial)
            · exact wr64 (by omega) (by omega) (by omega)
          refine lp_end (k + 1) ?_ ?_ ?_
          · show ((k + 1) ≤ x.length) ∧ (∀ j, j < (k + 1) → ∀ i, i < (x.getD j []).length → (x.getD j []).getD i false = (y.getD j []).getD i false)
            refine ⟨?_, ?_⟩
            · omega
            · exact fun j hj => (by by_cases e : j = k; (subst e; exact fun i hi => hi1_1 i (by omega)); exact hi0_1 j (by omega))
          · show x.length - (k + 1) < x.length - k
            omega
          · intro A_ W_ hS
            exact sl_weak (vc := []) [] [0, 1, 5] (by kernel_rfl) trivial hS
    · skip
      refine tr_exit ?_
      refine th_e ?_
      refine th_e ?_
      refine in_hit ?_
      refine tr_then (tr_seq ?_)
      refine tr_r (vc := []) (E' := [(4, none, vbool true)]) (H' := []) [] [] [4] (by kernel_rfl) ?_ ?_
      · exact trivial
      refine tr_then ?_
      refine tr_pre (E' := (4, none, vbool (decide (sameP x y))) :: [(4, none, vbool true)]) (H' := []) (fun A_ W_ hS => sl_set_imp (d := vbool true) 4 (vbool (decide (sameP x y))) (by kernel_rfl) ?_ hS) ?_
      · refine imp_eq (congrArg (fun x => D.p (eB x)) (a₁ := true) (a₂ := (decide (sameP x y))) ?_)
        exact (decide_eq_true (fun j hj i hi => hi0_1 j (by omega) i hi)).symm
      refine tr_pre (E' := [(4, none, vbool (decide (sameP x y)))]) (H' := []) (fun A_ W_ hS => sl_proj (ts := [4]) (by kernel_rfl) hS) ?_
      exact tr_return' (vc := []) (ds := [vbool (decide (sameP x y))]) (by kernel_rfl) trivial (by kernel_rfl) (fun _ _ h => h)
theorem find_ok (l : List (List (List Bool))) (x : List (List Bool)) (hb0 : l.length < 4611686018427387904) (hsh : ∀ k, k < l.length → (l.getD k []).length < 4611686018427387904 ∧ (∀ j, ((l.getD k []).getD j []).length < 4611686018427387904) ∧ Shape (l.getD k []) x) : Pure Try.prog 40 [(eL (eL (eL eB 1 false) 1 []) 1 []) l, (eL (eL eB 1 false) 1 []) x] (vint .i64 (findL x l 0)) := by
  refine pure_of (fn := Try.f40) Try.func40 rfl rfl fun F_ W0_ => ?_
  refine tr_seq ?_
  refine tr_r (vc := []) (E' := [(0, none, .p ((eL (eL (eL eB 1 false) 1 []) 1 []) l)), (1, none, .p ((eL (eL eB 1 false) 1 []) x))]) (H' := []) [] [] [0, 1] (by kernel_rfl) ?_ ?_
  · exact trivial
  refine tr_then (tr_seq ?_)
  refine tr_seq ?_
  refine tr_r (vc := []) (E' := [(0, none, .p ((eL (eL (eL eB 1 false) 1 []) 1 []) l)), (1, none, .p ((eL (eL eB 1 false) 1 []) x)), (5, none, vint .i64 0)]) (H' := []) [] [] [0, 1, 5] (by kernel_rfl) ?_ ?_
  · exact trivial
  refine tr_then ?_
  refine tr_block ?_
  refine tr_loop (α := Nat) (fun z : Nat => (fun (k : Nat) => [(0, none, .p ((eL (eL (eL eB 1 false) 1 []) 1 []) l)), (1, none, .p ((eL (eL eB 1 false) 1 []) x)), (5, none, vint .i64 ((k : Nat) : Int))]) z) (fun z : Nat => (fun (k : Nat) => []) z) (fun z : Nat => (fun (k : Nat) => (k ≤ l.length) ∧ (findL x (l.drop k) (k : Int) = findL x l 0)) z) (fun z : Nat => (fun (k : Nat) => l.length - k) z) 0 ?_ ?_ ?_
  · show (0 ≤ l.length) ∧ (findL x (l.drop 0) (0 : Int) = findL x l 0)
    refine ⟨?_, ?_⟩
    · omega
    · rfl
  · intro A_ W_ hS
    replace hS := sl_set (d := vint .i64 0) 5 (vint .i64 ((0 : Nat) : Int)) (by kernel_rfl) (eqD_int (by omega)) hS
    exact sl_weak (vc := []) [] [0, 1, 5] (by kernel_rfl) trivial hS
  · intro z hz
    revert z; intro k hz
    have hz : (k ≤ l.length) ∧ (findL x (l.drop k) (k : Int) = findL x l 0) := hz
    obtain ⟨hi0_0, hi0_1⟩ := hz
    refine tr_seq ?_
    refine tr_seq ?_
    refine tr_r (vc := []) (E' := [(0, none, .p ((eL (eL (eL eB 1 false) 1 []) 1 []) l)), (1, none, .p ((eL (eL eB 1 false) 1 []) x)), (5, none, vint .i64 ((k : Nat) : Int)), (9, none, vbool (decide (((k : Nat) : Int) < ((l.length : Nat) : Int))))]) (H' := []) [] [] [0, 1, 5, 9] (by kernel_rfl) ?_ ?_
    · exact trivial
    refine tr_then ?_
    refine tr_condP (decide (((k : Nat) : Int) < ((l.length : Nat) : Int))) (((k : Nat) : Int) < ((l.length : Nat) : Int)) (by simp) (by kernel_rfl) (fun hc1 => ?_) (fun hc1 => ?_)
    · skip
      refine tr_skip ?_
      refine tr_then (tr_seq ?_)
      refine tr_block ?_
      refine tr_seq ?_
      refine tr_r (vc := [(0 : Int) ≤ ((k : Nat) : Int), ((k : Nat) : Int) < (l.length : Int), Pure Try.prog 48 [(eL (eL eB 1 false) 1 []) (l.getD k []), (eL (eL eB 1 false) 1 []) x] (vbool (decide (sameP (l.getD k []) x)))]) (E' := [(0, none, .p ((eL (eL (eL eB 1 false) 1 []) 1 []) l)), (1, none, .p ((eL (eL eB 1 false) 1 []) x)), (5, none, vint .i64 ((k : Nat) : Int)), (17, none, vbool (decide (sameP (l.getD k []) x)))]) (H' := []) [] [(5, vbool (decide (sameP (l.getD k []) x)))] [0, 1, 5, 17] (by kernel_rfl) ?_ ?_
      · refine al ?_ (al ?_ (al ?_ (trivial)))
        · omega
        · omega
        · exact sameR_ok _ _ (hsh _ (by omega)).1 (hsh _ (by omega)).2.1 (hsh _ (by omega)).2.2
      refine tr_then ?_
      refine tr_cond (decide (sameP (l.getD k []) x)) (by kernel_rfl) (fun hc2 => ?_) (fun hc2 => ?_)
      · skip
        refine tr_seq ?_
        refine tr_r (vc := []) (E' := [(4, none, vint .i64 ((k : Nat) : Int))]) (H' := []) [] [] [4] (by kernel_rfl) ?_ ?_
        · exact trivial
        refine tr_then ?_
        refine tr_pre (E' := (4, none, vint .i64 (findL x l 0)) :: [(4, none, vint .i64 ((k : Nat) : Int))]) (H' := []) (fun A_ W_ hS => sl_set_imp (d := vint .i64 ((k : Nat) : Int)) 4 (vint .i64 (findL x l 0)) (by kernel_rfl) ?_ hS) ?_
        · refine imp_eq (congrArg (fun x => D.p (eI x)) (a₁ := ((k : Nat) : Int)) (a₂ := (findL x l 0)) ?_)
          rw [← hi0_1, findL_step (i := k) (by omega), if_pos (of_decide_eq_true hc2)]
        refine tr_pre (E' := [(4, none, vint .i64 (findL x l 0))]) (H' := []) (fun A_ W_ hS => sl_proj (ts := [4]) (by kernel_rfl) hS) ?_
        exact tr_return' (vc := []) (ds := [vint .i64 (findL x l 0)]) (by kernel_rfl) trivial (by kernel_rfl) (fun _ _ h => h)
      · skip
        refine tr_skip ?_
        refine in_n ?_
        refine tr_then ?_
        refine tr_r (vc := [(IntKind.wrap .i64 (((k : Nat) : Int) + 1)) = (((k + 1) : Nat) : Int)]) (E' := [(0, none, .p ((eL (eL (eL eB 1 false) 1 []) 1 []) l)), (1, none, .p ((eL (eL eB 1 false) 1 []) x)), (5, none, vint .i64 (((k + 1) : Nat) : Int))]) (H' := []) [(1, vint .i64 (((k + 1) : Nat) : Int))] [] [0, 1, 5] (by kernel_rfl) ?_ ?_
        · refine al ?_ (trivial)
          · exact wr64 (by omega) (by omega) (by omega)
        refine lp_end (k + 1) ?_ ?_ ?_
        · show ((k + 1) ≤ l.length) ∧ (findL x (l.drop (k + 1)) ((k + 1) : Int) = findL x l 0)
          refine ⟨?_, ?_⟩
          · omega
          · rw [← hi0_1, findL_step (i := k) (by omega), if_neg (of_decide_eq_false hc2)]; rfl
        · show l.length - (k + 1) < l.length - k
          omega
        · intro A_ W_ hS
          exact sl_weak (vc := []) [] [0, 1, 5] (by kernel_rfl) trivial hS
    · skip
      refine tr_exit ?_
      refine th_e ?_
      refine th_e ?_
      refine in_hit ?_
      refine tr_then (tr_seq ?_)
      refine tr_r (vc := []) (E' := [(4, none, vint .i64 (-1))]) (H' := []) [] [] [4] (by kernel_rfl) ?_ ?_
      · exact trivial
      refine tr_then ?_
      refine tr_pre (E' := (4, none, vint .i64 (findL x l 0)) :: [(4, none, vint .i64 (-1))]) (H' := []) (fun A_ W_ hS => sl_set_imp (d := vint .i64 (-1)) 4 (vint .i64 (findL x l 0)) (by kernel_rfl) ?_ hS) ?_
      · refine imp_eq (congrArg (fun x => D.p (eI x)) (a₁ := (-1)) (a₂ := (findL x l 0)) ?_)
        rw [← hi0_1, List.drop_of_length_le (by omega), findL]
      refine tr_pre (E' := [(4, none, vint .i64 (findL x l 0))]) (H' := []) (fun A_ W_ hS => sl_proj (ts := [4]) (by kernel_rfl) hS) ?_
      exact tr_return' (vc := []) (ds := [vint .i64 (findL x l 0)]) (by kernel_rfl) trivial (by kernel_rfl) (fun _ _ h => h)
end Go.Proofs.Ytjnjmnfacaakfaa
