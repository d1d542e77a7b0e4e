/-
  LanguageAnswers: whatever the input, the call returns true, and each argument reads afterwards as it read before. No conditions. (Part 5 of 8 of its proof.)
-/
import Derived.Test.YtjnjmnfacaakfaaCA4
import Derived.Test.YtjnjmnfacaakfaaRows
namespace Go.Proofs.Ytjnjmnfacaakfaa
open Go.Eng
def tabA : List (List UInt8) := [[97], [98], [99], [48], [91, 97, 45, 99, 93], [91, 97, 98, 93], [91, 48, 49, 93], [91, 45, 97, 93], [91, 97, 45, 102, 48, 45, 57, 93], [49], [102], [45]]
def tabB : List (List UInt8) := [[], [], [], [63], [43], [42]]
abbrev Pt := Draw × List UInt8
def pieceD (x : Pt) : Pt := (nextD (nextD x.1), x.2 ++ tabA.getD (nextV x.1 12).toNat [] ++ tabB.getD (nextV (nextD x.1) 6).toNat [])
def piecesD (x : Pt) : Nat → Pt
 | 0 => x
 | n + 1 => pieceD (piecesD x n)
def barD (k : Nat) (x : Pt) : Pt := if 0 < k then (x.1, x.2 ++ [124]) else x
def headD (k : Nat) (x : Pt) : Pt := (nextD (barD k x).1, (barD k x).2)
def branchD (k : Nat) (x : Pt) : Pt := piecesD (headD k x) (1 + nextV (barD k x).1 3).toNat
def branchesD (l : List Int) : Nat → Pt
 | 0 => (nextD { L := l, At := 0 }, [])
 | k + 1 => branchD k (branchesD l k)
def patS (l : List Int) : List UInt8 := (branchesD l (1 + nextV { L := l, At := 0 } 2).toNat).2
def OkD (l : List Int) (d : Draw) : Prop := d.L = l ∧ 0 ≤ d.At ∧ d.At ≤ l.length
theorem nextV_lt (d : Draw) {n : Int} (h : 0 < n) : 0 ≤ nextV d n ∧ nextV d n < n := by
 unfold nextV
 split
 ·exact ⟨Int.emod_nonneg _ (by omega), Int.emod_lt_of_pos _ h⟩
 ·omega
theorem nextD_ok {l : List Int} {d : Draw} (h : OkD l d) : OkD l (nextD d) := by
 obtain ⟨h1, h2, h3⟩ := h
 unfold nextD
 split
 ·rename_i hlt
  rw [h1] at hlt
  exact ⟨h1, by show 0 ≤ d.At + 1; omega, by show d.At + 1 ≤ _; omega⟩
 ·exact ⟨h1, h2, h3⟩
theorem tabA_len (n : Nat) : (tabA.getD n []).length ≤ 8 := by
 by_cases h : n < 12
 ·have : ∀ k : Fin 12, (tabA.getD k.val []).length ≤ 8 := by decide +kernel
  exact this ⟨n, h⟩
 ·have : tabA.getD n [] = [] := by simp [List.getD, List.getElem?_eq_none (show tabA.length ≤ n by show 12 ≤ n; omega)]
  rw [this]; simp
theorem tabB_len (n : Nat) : (tabB.getD n []).length ≤ 1 := by
 by_cases h : n < 6
 ·have : ∀ k : Fin 6, (tabB.getD k.val []).length ≤ 1 := by decide +kernel
  exact this ⟨n, h⟩
 ·have : tabB.getD n [] = [] := by simp [List.getD, List.getElem?_eq_none (show tabB.length ≤ n by show 6 ≤ n; omega)]
  rw [this]; simp
def OkP (l : List Int) (m : Nat) (x : Pt) : Prop := OkD l x.1 ∧ x.2.length ≤ m
theorem pieces_ok {l : List Int} {m : Nat} {x : Pt} (h : OkP l m x) : ∀ n, OkP l (m + 9 * n) (piecesD x n)
 | 0 => h
 | n + 1 => by
  have ih := pieces_ok h n
  refine ⟨nextD_ok (nextD_ok ih.1), ?_⟩
  have h1 := tabA_len (nextV (piecesD x n).1 12).toNat
  have h2 := tabB_len (nextV (nextD (piecesD x n).1) 6).toNat
  have h3 := ih.2
  show (_ ++ _ ++ _ : List UInt8).length ≤ _
  simp only [List.length_append]
  omega
theorem bar_ok {l : List Int} {m k : Nat} {x : Pt} (h : OkP l m x) : OkP l (m + 1) (barD k x) := by
 unfold barD
 split
 ·exact ⟨h.1, by have := h.2; simp; omega⟩
 ·exact ⟨h.1, by have := h.2; omega⟩
theorem head_ok {l : List Int} {m k : Nat} {x : Pt} (h : OkP l m x) : OkP l (m + 1) (headD k x) := ⟨nextD_ok (bar_ok h).1, (bar_ok (k := k) h).2⟩
theorem branches_ok (l : List Int) : ∀ k, OkP l (28 * k) (branchesD l k)
 | 0 => ⟨nextD_ok ⟨rfl, by show (0 : Int) ≤ 0; omega, by show (0 : Int) ≤ _; omega⟩, by simp [branchesD]⟩
 | k + 1 => by
  have h := pieces_ok (head_ok (k := k) (branches_ok l k)) (1 + nextV (barD k (branchesD l k)).1 3).toNat
  have h3 := nextV_lt (barD k (branchesD l k)).1 (n := 3) (by omega)
  exact ⟨h.1, by have := h.2; show (piecesD _ _).2.length ≤ _; omega⟩
theorem pattern_ok (l : List Int) (hb0 : l.length < 4611686018427387904) : Pure Try.prog 9 [(eL eI 1 0) l] (vstr (patS l)) := by
 have hv0 := nextV_lt ({ L := l, At := 0 } : Draw) (n := 2) (by omega)
 refine pure_of (fn := Try.f9) Try.func9 rfl rfl fun F_ W0_ => ?_
 refine tr_seq (q_t [0] [.p ((eL eI 1 0) l)] [] (tr_then (tr_seq (q_t [3] [.ref 0 []] [.box (.p (.agg [(eL eI 1 0) l, .v (.int .i64 0)]))] (tr_then (tr_seq (q_m [3, 4] [.ref 0 [], vstr ([] : List UInt8)] (tr_then (tr_seq (q_r [Mut Try.prog 30 (.agg [(eL eI 1 0) l, .v (.int .i64 0)]) [.v (.int .i64 2)] (eDraw (nextD ({ L := l, At := 0 } : Draw))) (vint .i64 (nextV ({ L := l, At := 0 } : Draw) 2)), (IntKind.wrap .i64 ((1 : Int) + (nextV ({ L := l, At := 0 } : Draw) 2))) = ((1 : Int) + (nextV ({ L := l, At := 0 } : Draw) 2))] [3, 4, 5] [.ref 0 [], vstr ([] : List UInt8), vint .i64 ((1 : Int) + (nextV ({ L := l, At := 0 } : Draw) 2))] [.box (.p (eDraw (nextD ({ L := l, At := 0 } : Draw))))] [(2, vint .i64 ((1 : Int) + (nextV ({ L := l, At := 0 } : Draw) 2)))] [(1, .tup [.p (eDraw (nextD ({ L := l, At := 0 } : Draw))), vint .i64 (nextV ({ L := l, At := 0 } : Draw) 2)])] (al (next_ok ({ L := l, At := 0 } : Draw) 2 (by omega) (by omega) (by first | omega | (simp; done) | (simp; omega) | (simp_all; done) | (simp_all; omega)) (by first | omega | (simp; done) | (simp; omega) | (simp_all; done) | (simp_all; omega)) (by first | omega | (simp; done) | (simp; omega) | (simp_all; done) | (simp_all; omega))) (al (wr64 (by omega) (by omega) (by omega)) (trivial))) (tr_then (tr_seq (tr_seq (q_m [3, 4, 5, 6] [.ref 0 [], vstr ([] : List UInt8), vint .i64 ((1 : Int) + (nextV ({ L := l, At := 0 } : Draw) 2)), vint .i64 0] (tr_then (tr_block (tr_loop (α := Nat) (fun z : Nat => (fun (k : Nat) => [(3, none, .ref 0 []), (4, none, vstr ((branchesD l k).2)), (5, none, vint .i64 ((1 : Int) + (nextV ({ L := l, At := 0 } : Draw) 2))), (6, none, vint .i64 (k : Int))]) z) (fun z : Nat => (fun (k : Nat) => [.box (.p (eDraw ((branchesD l k).1)))]) z) (fun z : Nat => (fun (k : Nat) => ((k : Int) ≤ 1 + nextV ({ L := l, At := 0 } : Draw) 2)) z) (fun z : Nat => (fun (k : Nat) => (1 + nextV ({ L := l, At := 0 } : Draw) 2 - k).toNat) z) 0 ?_ ?_ ?_)))))))))))))))))
 ·show ((0 : Int) ≤ 1 + nextV ({ L := l, At := 0 } : Draw) 2)
  ·omega
 ·intro A_ W_ hS
  replace hS := q_a (d := vstr ([] : List UInt8)) 4 (vstr ((branchesD l 0).2)) (eqD_str (by rfl)) hS
  replace hS := q_a (d := vint .i64 0) 6 (vint .i64 ((0 : Nat) : Int)) (eqD_int (by omega)) hS
  replace hS := sl_obj_imp (d := .p (eDraw (nextD ({ L := l, At := 0 } : Draw)))) 0 (.p (eDraw ((branchesD l 0).1))) (by kernel_rfl) (impC_eq (congrArg (fun x => D.p (eDraw x)) (a₁ := (nextD ({ L := l, At := 0 } : Draw))) (a₂ := ((branchesD l 0).1)) (by rfl))) hS
  exact q_w [0] [3, 4, 5, 6] hS
 ·intro z hz
  revert z; intro k hz
  have hz : ((k : Int) ≤ 1 + nextV ({ L := l, At := 0 } : Draw) 2) := hz
  have hi0_0 := hz
  have hok := branches_ok l k
  have hk2 : k ≤ 2 := by omega
  refine tr_seq (tr_seq (q_t [3, 4, 5, 6, 17] [.ref 0 [], vstr ((branchesD l k).2), vint .i64 ((1 : Int) + (nextV ({ L := l, At := 0 } : Draw) 2)), vint .i64 (k : Int), vbool (decide ((k : Int) < ((1 : Int) + (nextV ({ L := l, At := 0 } : Draw) 2))))] [.box (.p (eDraw ((branchesD l k).1)))] (tr_then (q_e ((k : Int) < ((1 : Int) + (nextV ({ L := l, At := 0 } : Draw) 2))) (fun hc1 => ?_) (fun hc1 => ?_)))))
  ·refine tr_skip (tr_then (tr_seq (tr_block (tr_join (α := Unit) (fun z : Unit => [(3, none, .ref 0 []), (4, none, vstr ((barD k (branchesD l k)).2)), (5, none, vint .i64 ((1 : Int) + (nextV ({ L := l, At := 0 } : Draw) 2))), (6, none, vint .i64 (k : Int))]) (fun z : Unit => [.box (.p (eDraw ((barD k (branchesD l k)).1)))]) (fun z : Unit => True) ?_ ?_))))
   ·intro z hz
    have hbk := bar_ok (k := k) hok
    have hv1 := nextV_lt (barD k (branchesD l k)).1 (n := 3) (by omega)
    obtain ⟨⟨e0, e1, e2⟩, e3⟩ := hbk
    refine tr_seq (q_r [Mut Try.prog 30 (eDraw ((barD k (branchesD l k)).1)) [.v (.int .i64 3)] (eDraw (nextD ((barD k (branchesD l k)).1))) (vint .i64 (nextV ((barD k (branchesD l k)).1) 3)), (IntKind.wrap .i64 ((1 : Int) + (nextV ((barD k (branchesD l k)).1) 3))) = ((1 : Int) + (nextV ((barD k (branchesD l k)).1) 3))] [3, 4, 5, 6, 7] [.ref 0 [], vstr ((barD k (branchesD l k)).2), vint .i64 ((1 : Int) + (nextV ({ L := l, At := 0 } : Draw) 2)), vint .i64 (k : Int), vint .i64 ((1 : Int) + (nextV ((barD k (branchesD l k)).1) 3))] [.box (.p (eDraw (nextD ((barD k (branchesD l k)).1))))] [(2, vint .i64 ((1 : Int) + (nextV ((barD k (branchesD l k)).1) 3)))] [(1, .tup [.p (eDraw (nextD ((barD k (branchesD l k)).1))), vint .i64 (nextV ((barD k (branchesD l k)).1) 3)])] (al (next_ok ((barD k (branchesD l k)).1) 3 (by omega) (by omega) (by first | omega | (simp; done) | (simp; omega) | (simp_all; done) | (simp_all; omega)) (by first | omega | (simp; done) | (simp; omega) | (simp_all; done) | (simp_all; omega)) (by first | omega | (simp; done) | (simp; omega) | (simp_all; done) | (simp_all; omega))) (al (wr64 (by omega) (by omega) (by omega)) (trivial))) (tr_then (tr_seq (q_m [3, 4, 5, 6, 7, 8] [.ref 0 [], vstr ((barD k (branchesD l k)).2), vint .i64 ((1 : Int) + (nextV ({ L := l, At := 0 } : Draw) 2)), vint .i64 (k : Int), vint .i64 ((1 : Int) + (nextV ((barD k (branchesD l k)).1) 3)), vint .i64 0] (tr_then (tr_block (tr_loop (α := Nat) (fun z : Nat => (fun (q : Nat) => [(3, none, .ref 0 []), (4, none, vstr ((piecesD (headD k (branchesD l k)) q).2)), (5, none, vint .i64 ((1 : Int) + (nextV ({ L := l, At := 0 } : Draw) 2))), (6, none, vint .i64 (k : Int)), (7, none, vint .i64 ((1 : Int) + (nextV ((barD k (branchesD l k)).1) 3))), (8, none, vint .i64 (q : Int))]) z) (fun z : Nat => (fun (q : Nat) => [.box (.p (eDraw ((piecesD (headD k (branchesD l k)) q).1)))]) z) (fun z : Nat => (fun (q : Nat) => ((q : Int) ≤ 1 + nextV (barD k (branchesD l k)).1 3)) z) (fun z : Nat => (fun (q : Nat) => (1 + nextV (barD k (branchesD l k)).1 3 - q).toNat) z) 0 ?_ ?_ ?_)))))))
    ·show ((0 : Int) ≤ 1 + nextV (barD k (branchesD l k)).1 3)
     ·omega
    ·intro A_ W_ hS
     replace hS := q_a (d := vstr ((barD k (branchesD l k)).2)) 4 (vstr ((piecesD (headD k (branchesD l k)) 0).2)) (eqD_str (by rfl)) hS
     replace hS := q_a (d := vint .i64 0) 8 (vint .i64 ((0 : Nat) : Int)) (eqD_int (by omega)) hS
     replace hS := sl_obj_imp (d := .p (eDraw (nextD ((barD k (branchesD l k)).1)))) 0 (.p (eDraw ((piecesD (headD k (branchesD l k)) 0).1))) (by kernel_rfl) (impC_eq (congrArg (fun x => D.p (eDraw x)) (a₁ := (nextD ((barD k (branchesD l k)).1))) (a₂ := ((piecesD (headD k (branchesD l k)) 0).1)) (by rfl))) hS
     exact q_w [0] [3, 4, 5, 6, 7, 8] hS
    ·intro z hz
     revert z; intro q hz
     have hz : ((q : Int) ≤ 1 + nextV (barD k (branchesD l k)).1 3) := hz
     have hi1_0 := hz
     have hpk := pieces_ok (head_ok (k := k) hok) q
     obtain ⟨⟨p0, p1, p2⟩, p3⟩ := hpk
     have hv2 := nextV_lt (piecesD (headD k (branchesD l k)) q).1 (n := 12) (by omega)
     have hv3 := nextV_lt (nextD (piecesD (headD k (branchesD l k)) q).1) (n := 6) (by omega)
     obtain ⟨r0, r1, r2⟩ := nextD_ok (l := l) (d := (piecesD (headD k (branchesD l k)) q).1) ⟨p0, p1, p2⟩
     refine tr_seq (tr_seq (q_t [3, 4, 5, 6, 7, 8, 29] [.ref 0 [], vstr ((piecesD (headD k (branchesD l k)) q).2), vint .i64 ((1 : Int) + (nextV ({ L := l, At := 0 } : Draw) 2)), vint .i64 (k : Int), vint .i64 ((1 : Int) + (nextV ((barD k (branchesD l k)).1) 3)), vint .i64 (q : Int), vbool (decide ((q : Int) < ((1 : Int) + (nextV ((barD k (branchesD l k)).1) 3))))] [.box (.p (eDraw ((piecesD (headD k (branchesD l k)) q).1)))] (tr_then (q_e ((q : Int) < ((1 : Int) + (nextV ((barD k (branchesD l k)).1) 3))) (fun hc2 => ?_) (fun hc2 => ?_)))))
     ·refine tr_skip (tr_then (tr_seq (tr_block (tr_dx (vc := [∀ j, j < 12 → ([.s ([97] : List UInt8), .s ([98] : List UInt8), .s ([99] : List UInt8), .s ([48] : List UInt8), .s ([91, 97, 45, 99, 93] : List UInt8), .s ([91, 97, 98, 93] : List UInt8), .s ([91, 48, 49, 93] : List UInt8), .s ([91, 45, 97, 93] : List UInt8), .s ([91, 97, 45, 102, 48, 45, 57, 93] : List UInt8), .s ([49] : List UInt8), .s ([102] : List UInt8), .s ([45] : List UInt8)] : List PV).getD j default = (fun i => eS (([([97] : List UInt8), ([98] : List UInt8), ([99] : List UInt8), ([48] : List UInt8), ([91, 97, 45, 99, 93] : List UInt8), ([91, 97, 98, 93] : List UInt8), ([91, 48, 49, 93] : List UInt8), ([91, 45, 97, 93] : List UInt8), ([91, 97, 45, 102, 48, 45, 57, 93] : List UInt8), ([49] : List UInt8), ([102] : List UInt8), ([45] : List UInt8)]).getD i [])) j, Mut Try.prog 30 (eDraw ((piecesD (headD k (branchesD l k)) q).1)) [.v (.int .i64 12)] (eDraw (nextD ((piecesD (headD k (branchesD l k)) q).1))) (vint .i64 (nextV ((piecesD (headD k (branchesD l k)) q).1) 12)), (0 : Int) ≤ (nextV ((piecesD (headD k (branchesD l k)) q).1) 12), (nextV ((piecesD (headD k (branchesD l k)) q).1) 12) < (([([97] : List UInt8), ([98] : List UInt8), ([99] : List UInt8), ([48] : List UInt8), ([91, 97, 45, 99, 93] : List UInt8), ([91, 97, 98, 93] : List UInt8), ([91, 48, 49, 93] : List UInt8), ([91, 45, 97, 93] : List UInt8), ([91, 97, 45, 102, 48, 45, 57, 93] : List UInt8), ([49] : List UInt8), ([102] : List UInt8), ([45] : List UInt8)]).length : Int), ((((piecesD (headD k (branchesD l k)) q).2).length + (([([97] : List UInt8), ([98] : List UInt8), ([99] : List UInt8), ([48] : List UInt8), ([91, 97, 45, 99, 93] : List UInt8), ([91, 97, 98, 93] : List UInt8), ([91, 48, 49, 93] : List UInt8), ([91, 45, 97, 93] : List UInt8), ([91, 97, 45, 102, 48, 45, 57, 93] : List UInt8), ([49] : List UInt8), ([102] : List UInt8), ([45] : List UInt8)]).getD ((nextV ((piecesD (headD k (branchesD l k)) q).1) 12).toNat) []).length : Nat) : Int) ≤ 9223372036854775807, ∀ j, j < 6 → ([.s ([] : List UInt8), .s ([] : List UInt8), .s ([] : List UInt8), .s ([63] : List UInt8), .s ([43] : List UInt8), .s ([42] : List UInt8)] : List PV).getD j default = (fun i => eS (([([] : List UInt8), ([] : List UInt8), ([] : List UInt8), ([63] : List UInt8), ([43] : List UInt8), ([42] : List UInt8)]).getD i [])) j, Mut Try.prog 30 (eDraw (nextD ((piecesD (headD k (branchesD l k)) q).1))) [.v (.int .i64 6)] (eDraw (nextD (nextD ((piecesD (headD k (branchesD l k)) q).1)))) (vint .i64 (nextV (nextD ((piecesD (headD k (branchesD l k)) q).1)) 6)), (0 : Int) ≤ (nextV (nextD ((piecesD (headD k (branchesD l k)) q).1)) 6), (nextV (nextD ((piecesD (headD k (branchesD l k)) q).1)) 6) < (([([] : List UInt8), ([] : List UInt8), ([] : List UInt8), ([63] : List UInt8), ([43] : List UInt8), ([42] : List UInt8)]).length : Int), (((((piecesD (headD k (branchesD l k)) q).2) ++ (([([97] : List UInt8), ([98] : List UInt8), ([99] : List UInt8), ([48] : List UInt8), ([91, 97, 45, 99, 93] : List UInt8), ([91, 97, 98, 93] : List UInt8), ([91, 48, 49, 93] : List UInt8), ([91, 45, 97, 93] : List UInt8), ([91, 97, 45, 102, 48, 45, 57, 93] : List UInt8), ([49] : List UInt8), ([102] : List UInt8), ([45] : List UInt8)]).getD ((nextV ((piecesD (headD k (branchesD l k)) q).1) 12).toNat) [])).length + (([([] : List UInt8), ([] : List UInt8), ([] : List UInt8), ([63] : List UInt8), ([43] : List UInt8), ([42] : List UInt8)]).getD ((nextV (nextD ((piecesD (headD k (branchesD l k)) q).1)) 6).toNat) []).length : Nat) : Int) ≤ 9223372036854775807]) (E' := [(3, none, .ref 0 []), (4, none, vstr ((((piecesD (headD k (branchesD l k)) q).2) ++ (([([97] : List UInt8), ([98] : List UInt8), ([99] : List UInt8), ([48] : List UInt8), ([91, 97, 45, 99, 93] : List UInt8), ([91, 97, 98, 93] : List UInt8), ([91, 48, 49, 93] : List UInt8), ([91, 45, 97, 93] : List UInt8), ([91, 97, 45, 102, 48, 45, 57, 93] : List UInt8), ([49] : List UInt8), ([102] : List UInt8), ([45] : List UInt8)]).getD ((nextV ((piecesD (headD k (branchesD l k)) q).1) 12).toNat) [])) ++ (([([] : List UInt8), ([] : List UInt8), ([] : List UInt8), ([63] : List UInt8), ([43] : List UInt8), ([42] : List UInt8)]).getD ((nextV (nextD ((piecesD (headD k (branchesD l k)) q).1)) 6).toNat) []))), (5, none, vint .i64 ((1 : Int) + (nextV ({ L := l, At := 0 } : Draw) 2))), (6, none, vint .i64 (k : Int)), (7, none, vint .i64 ((1 : Int) + (nextV ((barD k (branchesD l k)).1) 3))), (8, none, vint .i64 (q : Int))]) (H' := [.box (.p (eDraw (nextD (nextD ((piecesD (headD k (branchesD l k)) q).1)))))]) 1 [(3, 1, [0], [0]), (9, 1, [0], [0])] [] [(1, .p ((eL eS 1 []) ([([97] : List UInt8), ([98] : List UInt8), ([99] : List UInt8), ([48] : List UInt8), ([91, 97, 45, 99, 93] : List UInt8), ([91, 97, 98, 93] : List UInt8), ([91, 48, 49, 93] : List UInt8), ([91, 45, 97, 93] : List UInt8), ([91, 97, 45, 102, 48, 45, 57, 93] : List UInt8), ([49] : List UInt8), ([102] : List UInt8), ([45] : List UInt8)]))), (3, .tup [.p (eDraw (nextD ((piecesD (headD k (branchesD l k)) q).1))), vint .i64 (nextV ((piecesD (headD k (branchesD l k)) q).1) 12)]), (7, .p ((eL eS 1 []) ([([] : List UInt8), ([] : List UInt8), ([] : List UInt8), ([63] : List UInt8), ([43] : List UInt8), ([42] : List UInt8)]))), (9, .tup [.p (eDraw (nextD (nextD ((piecesD (headD k (branchesD l k)) q).1)))), vint .i64 (nextV (nextD ((piecesD (headD k (branchesD l k)) q).1)) 6)])] [3, 4, 5, 6, 7, 8] (by kernel_rfl) (by kernel_rfl) (by kernel_rfl) (by kernel_rfl) ?_ ?_))))
      ·refine al (lit_pv (e := eS) (d := []) (l := [([97] : List UInt8), ([98] : List UInt8), ([99] : List UInt8), ([48] : List UInt8), ([91, 97, 45, 99, 93] : List UInt8), ([91, 97, 98, 93] : List UInt8), ([91, 48, 49, 93] : List UInt8), ([91, 45, 97, 93] : List UInt8), ([91, 97, 45, 102, 48, 45, 57, 93] : List UInt8), ([49] : List UInt8), ([102] : List UInt8), ([45] : List UInt8)])) (al (next_ok ((piecesD (headD k (branchesD l k)) q).1) 12 (by omega) (by omega) (by first | omega | (simp; done) | (simp; omega) | (simp_all; done) | (simp_all; omega)) (by first | omega | (simp; done) | (simp; omega) | (simp_all; done) | (simp_all; omega)) (by first | omega | (simp; done) | (simp; omega) | (simp_all; done) | (simp_all; omega))) (al (by omega) (al (by simp_all; done) (al ?_ (al (lit_pv (e := eS) (d := []) (l := [([] : List UInt8), ([] : List UInt8), ([] : List UInt8), ([63] : List UInt8), ([43] : List UInt8), ([42] : List UInt8)])) (al (next_ok (nextD ((piecesD (headD k (branchesD l k)) q).1)) 6 (by omega) (by omega) (by first | omega | (simp; done) | (simp; omega) | (simp_all; done) | (simp_all; omega)) (by first | omega | (simp; done) | (simp; omega) | (simp_all; done) | (simp_all; omega)) (by first | omega | (simp; done) | (simp; omega) | (simp_all; done) | (simp_all; omega))) (al (by omega) (al (by simp_all; done) (al ?_ (trivial))))))))))
       ·have h1 : (tabA.getD (nextV (piecesD (headD k (branchesD l k)) q).1 12).toNat []).length ≤ 8 := tabA_len _; unfold tabA at h1; omega
       ·have h1 : (tabA.getD (nextV (piecesD (headD k (branchesD l k)) q).1 12).toNat []).length ≤ 8 := tabA_len _; have h2 : (tabB.getD (nextV (nextD (piecesD (headD k (branchesD l k)) q).1) 6).toNat []).length ≤ 1 := tabB_len _; unfold tabA at h1; unfold tabB at h2; simp only [List.length_append]; omega
      refine in_n (tr_then (q_r [(IntKind.wrap .i64 ((q : Int) + 1)) = (((q + 1) : Nat) : Int)] [3, 4, 5, 6, 7, 8] [.ref 0 [], vstr ((((piecesD (headD k (branchesD l k)) q).2) ++ (([([97] : List UInt8), ([98] : List UInt8), ([99] : List UInt8), ([48] : List UInt8), ([91, 97, 45, 99, 93] : List UInt8), ([91, 97, 98, 93] : List UInt8), ([91, 48, 49, 93] : List UInt8), ([91, 45, 97, 93] : List UInt8), ([91, 97, 45, 102, 48, 45, 57, 93] : List UInt8), ([49] : List UInt8), ([102] : List UInt8), ([45] : List UInt8)]).getD ((nextV ((piecesD (headD k (branchesD l k)) q).1) 12).toNat) [])) ++ (([([] : List UInt8), ([] : List UInt8), ([] : List UInt8), ([63] : List UInt8), ([43] : List UInt8), ([42] : List UInt8)]).getD ((nextV (nextD ((piecesD (headD k (branchesD l k)) q).1)) 6).toNat) [])), vint .i64 ((1 : Int) + (nextV ({ L := l, At := 0 } : Draw) 2)), vint .i64 (k : Int), vint .i64 ((1 : Int) + (nextV ((barD k (branchesD l k)).1) 3)), vint .i64 (((q + 1) : Nat) : Int)] [.box (.p (eDraw (nextD (nextD ((piecesD (headD k (branchesD l k)) q).1)))))] [(1, vint .i64 (((q + 1) : Nat) : Int))] [] (al (wr64 (by omega) (by omega) (by omega)) (trivial)) (lp_end (q + 1) ?_ ?_ ?_)))
      ·show (((q + 1) : Int) ≤ 1 + nextV (barD k (branchesD l k)).1 3)
       ·omega
      ·show (1 + nextV (barD k (branchesD l k)).1 3 - (q + 1)).toNat < (1 + nextV (barD k (branchesD l k)).1 3 - q).toNat
       omega
      ·intro A_ W_ hS
       replace hS := q_a (d := vstr ((((piecesD (headD k (branchesD l k)) q).2) ++ (([([97] : List UInt8), ([98] : List UInt8), ([99] : List UInt8), ([48] : List UInt8), ([91, 97, 45, 99, 93] : List UInt8), ([91, 97, 98, 93] : List UInt8), ([91, 48, 49, 93] : List UInt8), ([91, 45, 97, 93] : List UInt8), ([91, 97, 45, 102, 48, 45, 57, 93] : List UInt8), ([49] : List UInt8), ([102] : List UInt8), ([45] : List UInt8)]).getD ((nextV ((piecesD (headD k (branchesD l k)) q).1) 12).toNat) [])) ++ (([([] : List UInt8), ([] : List UInt8), ([] : List UInt8), ([63] : List UInt8), ([43] : List UInt8), ([42] : List UInt8)]).getD ((nextV (nextD ((piecesD (headD k (branchesD l k)) q).1)) 6).toNat) []))) 4 (vstr ((piecesD (headD k (branchesD l k)) (q + 1)).2)) (eqD_str (by rfl)) hS
       replace hS := sl_obj_imp (d := .p (eDraw (nextD (nextD ((piecesD (headD k (branchesD l k)) q).1))))) 0 (.p (eDraw ((piecesD (headD k (branchesD l k)) (q + 1)).1))) (by kernel_rfl) (impC_eq (congrArg (fun x => D.p (eDraw x)) (a₁ := (nextD (nextD ((piecesD (headD k (branchesD l k)) q).1)))) (a₂ := ((piecesD (headD k (branchesD l k)) (q + 1)).1)) (by rfl))) hS
       exact q_w [0] [3, 4, 5, 6, 7, 8] hS
     ·refine tr_exit (th_e (th_e (in_hit (in_n (tr_then (q_k [(IntKind.wrap .i64 ((k : Int) + 1)) = (((k + 1) : Nat) : Int)] [3, 4, 5, 6] [.ref 0 [], vstr ((piecesD (headD k (branchesD l k)) q).2), vint .i64 ((1 : Int) + (nextV ({ L := l, At := 0 } : Draw) 2)), vint .i64 (((k + 1) : Nat) : Int)] [(1, vint .i64 (((k + 1) : Nat) : Int))] [] (al (wr64 (by omega) (by omega) (by omega)) (trivial)) (lp_end (k + 1) ?_ ?_ ?_)))))))
      ·show (((k + 1) : Int) ≤ 1 + nextV ({ L := l, At := 0 } : Draw) 2)
       ·omega
      ·show (1 + nextV ({ L := l, At := 0 } : Draw) 2 - (k + 1)).toNat < (1 + nextV ({ L := l, At := 0 } : Draw) 2 - k).toNat
       omega
      ·intro A_ W_ hS
       replace hS := q_a (d := vstr ((piecesD (headD k (branchesD l k)) q).2)) 4 (vstr ((branchesD l (k + 1)).2)) (eqD_str (by rw [show q = (1 + nextV (barD k (branchesD l k)).1 3).toNat by omega]; rfl)) hS
       replace hS := sl_obj_imp (d := .p (eDraw ((piecesD (headD k (branchesD l k)) q).1))) 0 (.p (eDraw ((branchesD l (k + 1)).1))) (by kernel_rfl) (impC_eq (congrArg (fun x => D.p (eDraw x)) (a₁ := ((piecesD (headD k (branchesD l k)) q).1)) (a₂ := ((branchesD l (k + 1)).1)) (by rw [show q = (1 + nextV (barD k (branchesD l k)).1 3).toNat by omega]; rfl))) hS
       exact q_w [0] [3, 4, 5, 6] hS
   ·refine tr_seq (q_t [3, 4, 5, 6, 21] [.ref 0 [], vstr ((branchesD l k).2), vint .i64 ((1 : Int) + (nextV ({ L := l, At := 0 } : Draw) 2)), vint .i64 (k : Int), vbool (decide (0 < (k : Int)))] [.box (.p (eDraw ((branchesD l k).1)))] (tr_then (q_e (0 < (k : Int)) (fun hc3 => ?_) (fun hc3 => ?_))))
    ·refine q_l [((((branchesD l k).2).length + ([124] : List UInt8).length : Nat) : Int) ≤ 9223372036854775807] [3, 4, 5, 6] [.ref 0 [], vstr (((branchesD l k).2) ++ ([124] : List UInt8)), vint .i64 ((1 : Int) + (nextV ({ L := l, At := 0 } : Draw) 2)), vint .i64 (k : Int)] ?_ ?_
     ·refine al ?_ (trivial)
      ·have h0 := hok.2; simp only [List.length_cons, List.length_nil]; omega
     refine jn_end () ?_ ?_
     ·exact trivial
     ·intro A_ W_ hS
      replace hS := q_a (d := vstr (((branchesD l k).2) ++ ([124] : List UInt8))) 4 (vstr ((barD k (branchesD l k)).2)) (eqD_str (by first | (unfold barD; rw [if_pos (by omega)]) | (unfold barD; rw [if_neg (by omega)]))) hS
      replace hS := sl_obj_imp (d := .p (eDraw ((branchesD l k).1))) 0 (.p (eDraw ((barD k (branchesD l k)).1))) (by kernel_rfl) (impC_eq (congrArg (fun x => D.p (eDraw x)) (a₁ := ((branchesD l k).1)) (a₂ := ((barD k (branchesD l k)).1)) (by first | (unfold barD; rw [if_pos (by omega)]) | (unfold barD; rw [if_neg (by omega)])))) hS
      exact q_w [0] [3, 4, 5, 6] hS
    ·refine tr_skip (jn_end () ?_ ?_)
     ·exact trivial
     ·intro A_ W_ hS
      replace hS := q_a (d := vstr ((branchesD l k).2)) 4 (vstr ((barD k (branchesD l k)).2)) (eqD_str (by first | (unfold barD; rw [if_pos (by omega)]) | (unfold barD; rw [if_neg (by omega)]))) hS
      replace hS := sl_obj_imp (d := .p (eDraw ((branchesD l k).1))) 0 (.p (eDraw ((barD k (branchesD l k)).1))) (by kernel_rfl) (impC_eq (congrArg (fun x => D.p (eDraw x)) (a₁ := ((branchesD l k).1)) (a₂ := ((barD k (branchesD l k)).1)) (by first | (unfold barD; rw [if_pos (by omega)]) | (unfold barD; rw [if_neg (by omega)])))) hS
      exact q_w [0] [3, 4, 5, 6] hS
  ·refine tr_exit (th_e (th_e (in_hit (tr_then (tr_seq (q_m [2] [vstr ((branchesD l k).2)] (tr_then (tr_pre (E' := [(2, none, vstr ((branchesD l k).2))]) (H' := []) (fun _ _ h => q_w [] [2] h) (q_i (d := vstr ((branchesD l k).2)) 2 (vstr (patS l)) ?_ ?_)))))))))
   ·refine imp_eq (congrArg (fun x => D.p (eS x)) (a₁ := ((branchesD l k).2)) (a₂ := (patS l)) ?_)
    rw [patS, show k = (1 + nextV ({ L := l, At := 0 } : Draw) 2).toNat by omega]
   exact q_z [vstr (patS l)] (fun _ _ h => h)
end Go.Proofs.Ytjnjmnfacaakfaa
namespace Go.Proofs.Ytjnjmnfacaakfaa
open Go.Eng
theorem langS_err (s : List UInt8) : (langS s).2 = 0 ∨ (langS s).2 = 2 ∨ (langS s).2 = 5 := by
 unfold langS
 split
 ·simp
 ·split
  ·simp
  ·split <;> simp
theorem bfs_len {ps : List Place} : ∀ {n k : Nat} {L : List Pl} {A : List Bool} {N : List (List Int)} {x : Lang}, A.length + n ≤ 17 → bfsM ps n L k A N = some x → x.Accept.length ≤ 17
 | 0, _, _, _, _, _, _, h => by cases h
 | n + 1, k, L, A, N, x, h1, h => by
  unfold bfsM at h
  split at h
  ·split at h
   ·cases h
   ·exact bfs_len (by simp; omega) h
  ·cases h
   show A.length ≤ 17
   omega
theorem langS_len (s : List UInt8) : (langS s).1.Accept.length ≤ 17 := by
 unfold langS
 split
 ·simp [dLang]
 ·split
  ·simp [dLang]
  ·split
   ·rename_i l h
    exact bfs_len (A := []) (by simp) h
   ·simp [dLang]
def statesS (s : List UInt8) : Int := if (langS s).2 ≠ 0 then -(langS s).2 else ((langS s).1.Accept.length : Int)
theorem states_ok (s : List UInt8) (hb0 : s.length < 4611686018427387904) : Pure Try.prog 29 [.s s] (vint .i64 (statesS s)) := by
 have he := langS_err s
 have hl := langS_len s
 refine pure_of (fn := Try.f29) Try.func29 rfl rfl fun F_ W0_ => ?_
 refine tr_seq (q_t [0] [vstr s] [] (tr_then (tr_seq (q_r [Pure Try.prog 11 [.s s] (.tup [.p (eLang ((langS s).1)), vint .i64 ((langS s).2)])] [3, 4] [.ref 0 [], vint .i64 ((langS s).2)] [.box (.p (eLang ((langS s).1)))] [] [(1, .tup [.p (eLang ((langS s).1)), vint .i64 ((langS s).2)])] (al (Parse_ok _ (by omega)) (trivial)) (tr_then (tr_seq (tr_seq (q_m [3, 4, 11] [.ref 0 [], vint .i64 ((langS s).2), vbool (((langS s).2) != 0)] (tr_then (q_c (((langS s).2) != 0) (((langS s).2) ≠ 0) (fun hc1 => ?_) (fun hc1 => ?_)))))))))))
 ·refine tr_seq (q_k [(IntKind.wrap .i64 (0 - ((langS s).2))) = (-((langS s).2))] [2] [vint .i64 (-((langS s).2))] [(1, vint .i64 (-((langS s).2)))] [] (al (wr64 (by omega) (by omega) (by omega)) (trivial)) (tr_then (tr_pre (E' := [(2, none, vint .i64 (-((langS s).2)))]) (H' := []) (fun _ _ h => q_w [] [2] h) (q_i (d := vint .i64 (-((langS s).2))) 2 (vint .i64 (statesS s)) ?_ ?_))))
  ·refine imp_eq (congrArg (fun x => D.p (eI x)) (a₁ := (-((langS s).2))) (a₂ := (statesS s)) ?_)
   first | (rw [statesS, if_pos (by omega)]; done) | (rw [statesS, if_neg (by omega)]; done)
  exact q_z [vint .i64 (statesS s)] (fun _ _ h => h)
 ·refine tr_skip (tr_then (tr_seq (q_m [2] [vint .i64 (((((langS s).1).Accept).length : Nat) : Int)] (tr_then (tr_pre (E' := [(2, none, vint .i64 (((((langS s).1).Accept).length : Nat) : Int))]) (H' := []) (fun _ _ h => q_w [] [2] h) (q_i (d := vint .i64 (((((langS s).1).Accept).length : Nat) : Int)) 2 (vint .i64 (statesS s)) ?_ ?_))))))
  ·refine imp_eq (congrArg (fun x => D.p (eI x)) (a₁ := (((((langS s).1).Accept).length : Nat) : Int)) (a₂ := (statesS s)) ?_)
   first | (rw [statesS, if_pos (by omega)]; done) | (rw [statesS, if_neg (by omega)]; done)
  exact q_z [vint .i64 (statesS s)] (fun _ _ h => h)
end Go.Proofs.Ytjnjmnfacaakfaa
namespace Go.Proofs.Ytjnjmnfacaakfaa
open Go.Eng
structure Aut (σ : Type) where
 step : σ → Nat → σ
 none : σ → Bool
 acc : σ → Bool
 same : σ → σ → Bool
section
variable {σ τ : Type}
def idxG (A : Aut σ) (x : σ) : List σ → Nat → Option Nat
 | [], _ => .none
 | y :: L, i => if A.same y x = true then some i else idxG A x L (i + 1)
def rowG (A : Aut σ) (x : σ) (L : List σ) : Nat → List σ × List Int
 | 0 => (L, [])
 | c + 1 => if A.none (A.step x c) = true then ((rowG A x L c).1, (rowG A x L c).2 ++ [-1]) else
  match idxG A (A.step x c) (rowG A x L c).1 0 with
  | some i => ((rowG A x L c).1, (rowG A x L c).2 ++ [(i : Int)])
  | .none => ((rowG A x L c).1 ++ [A.step x c], (rowG A x L c).2 ++ [((rowG A x L c).1.length : Int)])
def bfsG (A : Aut σ) : Nat → List σ → Nat → List Bool → List (List Int) → Option Lang
 | 0, _, _, _, _ => .none
 | n + 1, L, k, B, N => match L[k]? with
  | some x => if 16 < (rowG A x L 37).1.length then .none else bfsG A n (rowG A x L 37).1 (k + 1) (B ++ [A.acc x]) (N ++ [(rowG A x L 37).2])
  | .none => some { Accept := B, Next := N }
structure Side (A : Aut σ) (B : Aut τ) (R : σ → τ → Prop) : Prop where
 step : ∀ x y c, c < 37 → R x y → R (A.step x c) (B.step y c)
 none : ∀ x y, R x y → A.none x = B.none y
 acc : ∀ x y, R x y → A.acc x = B.acc y
 same : ∀ x y x' y', R x y → R x' y' → A.same x x' = B.same y y'
variable {A : Aut σ} {B : Aut τ} {R : σ → τ → Prop}
inductive Rel (R : σ → τ → Prop) : List σ → List τ → Prop where
 | nil : Rel R [] []
 | cons {x y L M} : R x y → Rel R L M → Rel R (x :: L) (y :: M)
theorem Rel.length {L : List σ} {M : List τ} (h : Rel R L M) : L.length = M.length := by
 induction h with
 | nil => rfl
 | cons _ _ ih => simp [ih]
theorem Rel.snoc {L : List σ} {M : List τ} {x : σ} {y : τ} (h : Rel R L M) (hx : R x y) : Rel R (L ++ [x]) (M ++ [y]) := by
 induction h with
 | nil => exact .cons hx .nil
 | cons h1 _ ih => exact .cons h1 ih
theorem Rel.get {L : List σ} {M : List τ} (h : Rel R L M) : ∀ k : Nat, (L[k]? = .none ∧ M[k]? = .none) ∨ ∃ x y, L[k]? = some x ∧ M[k]? = some y ∧ R x y := by
 induction h with
 | nil => intro k; simp
 | cons h1 _ ih =>
  intro k
  cases k with
  | zero => exact .inr ⟨_, _, rfl, rfl, h1⟩
  | succ k => simpa using ih k
theorem idxG_side (hs : Side A B R) {x : σ} {y : τ} (hx : R x y) {L : List σ} {M : List τ} (h : Rel R L M) : ∀ i, idxG A x L i = idxG B y M i := by
 induction h with
 | nil => intro i; rfl
 | cons h1 _ ih =>
  intro i
  simp only [idxG]
  rw [hs.same _ _ _ _ h1 hx, ih]
theorem rowG_side (hs : Side A B R) {x : σ} {y : τ} (hx : R x y) {L : List σ} {M : List τ} (h : Rel R L M) : ∀ c, c ≤ 37 → Rel R (rowG A x L c).1 (rowG B y M c).1 ∧ (rowG A x L c).2 = (rowG B y M c).2
 | 0, _ => ⟨h, rfl⟩
 | c + 1, hc => by
  obtain ⟨h1, h2⟩ := rowG_side hs hx h c (by omega)
  have h3 := hs.step x y c (by omega) hx
  have h4 := idxG_side hs h3 h1 0
  have h5 := h1.length
  unfold rowG
  rw [hs.none _ _ h3]
  split
  ·exact ⟨h1, by rw [h2]⟩
  ·rw [h4]
   split
   ·exact ⟨h1, by rw [h2]⟩
   ·exact ⟨h1.snoc h3, by rw [h2, h5]⟩
theorem bfsG_side (hs : Side A B R) : ∀ {n k : Nat} {L : List σ} {M : List τ} {b : List Bool} {N : List (List Int)}, Rel R L M → bfsG A n L k b N = bfsG B n M k b N
 | 0, _, _, _, _, _, _ => rfl
 | n + 1, k, L, M, b, N, h => by
  unfold bfsG
  rcases h.get k with ⟨h1, h2⟩ | ⟨x, y, h1, h2, h3⟩
  ·rw [h1, h2]
  ·rw [h1, h2]
   obtain ⟨q1, q2⟩ := rowG_side hs h3 h 37 (Nat.le_refl _)
   simp only
   rw [q1.length, q2, hs.acc _ _ h3]
   split
   ·rfl
   ·exact bfsG_side hs q1
end
def autP (ps : List Place) : Aut Pl := { step := fun S c => stepS ps S c, none := fun S => decide (keyS S = [0, 0]), acc := acceptS ps, same := fun S T => decide (keyS S = keyS T) }
theorem idx_G (ps : List Place) (S : Pl) : ∀ (L : List Pl) (i : Nat), idx S L i = idxG (autP ps) S L i
 | [], _ => rfl
 | T :: L, i => by simp only [idx, idxG, autP, decide_eq_true_eq]; rw [idx_G ps S L (i + 1)]; rfl
theorem row_G (ps : List Place) (S : Pl) (L : List Pl) : ∀ c, rowAt ps S L c = rowG (autP ps) S L c
 | 0 => rfl
 | c + 1 => by
  unfold rowAt rowG
  rw [row_G ps S L c]
  have e : (autP ps).step S c = stepS ps S c := rfl
  rw [e, ← idx_G]
  by_cases h : keyS (stepS ps S c) = [0, 0]
  ·rw [if_pos h, if_pos (show (autP ps).none (stepS ps S c) = true from decide_eq_true h)]
  ·rw [if_neg h, if_neg (show ¬ (autP ps).none (stepS ps S c) = true from fun h' => h (of_decide_eq_true h'))]
   rfl
theorem bfs_G (ps : List Place) : ∀ (n k : Nat) (L : List Pl) (b : List Bool) (N : List (List Int)), bfsM ps n L k b N = bfsG (autP ps) n L k b N
 | 0, _, _, _, _ => rfl
 | n + 1, k, L, b, N => by
  unfold bfsM bfsG
  by_cases h : k < L.length
  ·rw [if_pos h, List.getElem?_eq_getElem h]
   have e : L.getD k noSet = L[k] := by simp [List.getD, List.getElem?_eq_getElem h]
   simp only [e]
   rw [row_G]
   split
   ·rfl
   ·rw [bfs_G]; rfl
  ·rw [if_neg h, List.getElem?_eq_none (by omega)]
end Go.Proofs.Ytjnjmnfacaakfaa
namespace Go.Proofs.Ytjnjmnfacaakfaa
open Go.Eng
def clF (ps : List Place) (m : Nat) : Nat → Nat
 | 0 => m
 | i + 1 => if (clF ps m i).testBit i = true ∧ (ps.getD i dPlace).fMore ≠ 0 then clF ps m i ||| 2 ^ (i + 1) else clF ps m i
def closedF (ps : List Place) (m : Nat) : Nat := clF ps m ps.length
def spF (ps : List Place) (m : Nat) (c : Int) : Nat → Nat
 | 0 => 0
 | i + 1 => if m.testBit i = true ∧ bitOf (ps.getD i dPlace).fSet c = true then (if (ps.getD i dPlace).fMore = 42 then spF ps m c i ||| 2 ^ i else spF ps m c i ||| 2 ^ (i + 1)) else spF ps m c i
def stepF (ps : List Place) (m : Nat) (c : Int) : Nat := closedF ps (spF ps m c ps.length)
def accF (ps : List Place) (m : Nat) : Nat → Bool
 | 0 => false
 | i + 1 => accF ps m i || ((ps.getD i dPlace).fEnd && m.testBit i)
def autF (ps : List Place) : Aut Nat := { step := fun m c => stepF ps m c, none := fun m => m == 0, acc := fun m => accF ps m ps.length, same := fun m n => m == n }
def Bits (S : Pl) (m : Nat) : Prop := m < 2 ^ 128 ∧ ∀ i, i < 128 → S i = m.testBit i
theorem bits_upd {S : Pl} {m n : Nat} (h : Bits S m) (hn : n < 128) : Bits (upd S n true) (m ||| 2 ^ n) := by
 refine ⟨Nat.or_lt_two_pow h.1 (Nat.pow_lt_pow_right (by omega) hn), fun i hi => ?_⟩
 rw [Nat.testBit_or, Nat.testBit_two_pow]
 unfold upd
 by_cases hj : i = n
 ·subst hj; simp
 ·have : decide (n = i) = false := by simp; omega
  rw [this, if_neg hj, Bool.or_false]
  exact h.2 i hi
theorem cl_bits {ps : List Place} {S : Pl} {m : Nat} (h : Bits S m) : ∀ i, i ≤ 127 → Bits (cl ps S i) (clF ps m i)
 | 0, _ => h
 | i + 1, hi => by
  have ih := cl_bits (ps := ps) h i (by omega)
  unfold cl clF
  rw [ih.2 i (by omega)]
  split
  ·exact bits_upd ih (by omega)
  ·exact ih
theorem sp_bits {ps : List Place} {S : Pl} {m : Nat} {c : Int} (h : Bits S m) : ∀ i, i ≤ 127 → Bits (sp ps S c i) (spF ps m c i)
 | 0, _ => ⟨Nat.pos_of_ne_zero (by simp), fun i _ => by simp [sp, spF]⟩
 | i + 1, hi => by
  have ih := sp_bits (ps := ps) (c := c) h i (by omega)
  unfold sp spF
  rw [h.2 i (by omega)]
  split
  ·split
   ·exact bits_upd ih (by omega)
   ·exact bits_upd ih (by omega)
  ·exact ih
theorem acc_bits {ps : List Place} {S : Pl} {m : Nat} (h : Bits S m) : ∀ i, i ≤ 128 → acc ps S i = accF ps m i
 | 0, _ => rfl
 | i + 1, hi => by
  unfold acc accF
  rw [acc_bits h i (by omega), h.2 i (by omega)]
theorem key_same {S T : Pl} {m n : Nat} (h : Bits S m) (k : Bits T n) : keyS S = keyS T ↔ m = n := by
 constructor
 ·intro e
  have e0 : setW S 0 = setW T 0 := congrArg (fun l => l.getD 0 0) e
  have e1 : setW S 1 = setW T 1 := congrArg (fun l => l.getD 1 0) e
  have e0 := wordN_inj (Int.ofNat.inj e0)
  have e1 := wordN_inj (Int.ofNat.inj e1)
  apply Nat.eq_of_testBit_eq
  intro i
  by_cases hi : i < 128
  ·rw [← h.2 i hi, ← k.2 i hi]
   by_cases hj : i < 64
   ·have := e0 i hj
    simpa using this
   ·have : S (64 * 1 + (i - 64)) = T (64 * 1 + (i - 64)) := e1 (i - 64) (by omega)
    rwa [show 64 * 1 + (i - 64) = i by omega] at this
  ·have hp : 2 ^ 128 ≤ 2 ^ i := Nat.pow_le_pow_right (by omega) (by omega)
   rw [Nat.testBit_lt_two_pow (Nat.lt_of_lt_of_le h.1 hp), Nat.testBit_lt_two_pow (Nat.lt_of_lt_of_le k.1 hp)]
 ·rintro rfl
  have key : ∀ q, q < 2 → setW S q = setW T q := by
   intro q hq
   unfold setW
   congr 1
   exact wordN_congr fun i hi => by rw [h.2 _ (by omega), k.2 _ (by omega)]
  unfold keyS
  rw [key 0 (by omega), key 1 (by omega)]
theorem bits_none : Bits noSet 0 := ⟨Nat.pos_of_ne_zero (by simp), fun i _ => by simp [noSet]⟩
theorem keyS_none : keyS noSet = [0, 0] := by decide +kernel
theorem side_F {ps : List Place} (hp : ps.length ≤ 127) : Side (autP ps) (autF ps) Bits where
 step := fun S m c _ h => cl_bits (sp_bits h _ hp) _ hp
 none := fun S m h => by
  show decide (keyS S = [0, 0]) = (m == 0)
  rw [← keyS_none]
  have := key_same h bits_none
  by_cases e : m = 0
  ·rw [decide_eq_true (this.2 e)]; simp [e]
  ·rw [decide_eq_false (fun h' => e (this.1 h'))]; simp [e]
 acc := fun S m h => acc_bits h _ (by omega)
 same := fun S m S' m' h h' => by
  show decide (keyS S = keyS S') = (m == m')
  have := key_same h h'
  by_cases e : m = m'
  ·rw [decide_eq_true (this.2 e)]; simp [e]
  ·rw [decide_eq_false (fun h' => e (this.1 h'))]; simp [e]
def startF (st : List Int) : Nat → Nat
 | 0 => 0
 | i + 1 => startF st i ||| 2 ^ (st.getD i 0).toNat
theorem start_bits {st : List Int} (h : ∀ i, i < st.length → 0 ≤ st.getD i 0 ∧ st.getD i 0 < 128) : ∀ i, i ≤ st.length → Bits (startAt st i) (startF st i)
 | 0, _ => bits_none
 | i + 1, hi => bits_upd (start_bits h i (by omega)) (by have := h i (by omega); omega)
def langF (s : List UInt8) : Lang × Int := if 64 < s.length then (dLang, 2) else if (parseS s).isSome = false then (dLang, 5) else
 match bfsG (autF (plOf (parseS s))) 17 [closedF (plOf (parseS s)) (startF (stOf (parseS s)) (stOf (parseS s)).length)] 0 [] [] with
 | some l => (l, 0)
 | none => (dLang, 2)
theorem langS_F (s : List UInt8) : langS s = langF s := by
 unfold langS langF
 split
 ·rfl
 ·rename_i hs
  split
  ·rfl
  ·obtain ⟨h1, h2, h3⟩ := parseS_bound (s := s)
   have hp : (plOf (parseS s)).length ≤ 127 := by omega
   have hR : Bits (startS (parseS s)) (closedF (plOf (parseS s)) (startF (stOf (parseS s)) (stOf (parseS s)).length)) := cl_bits (start_bits (fun i hi => by have := h1 i hi; omega) _ (Nat.le_refl _)) _ hp
   rw [bfs_G, bfsG_side (side_F hp) (.cons hR .nil)]
   generalize bfsG (autF (plOf (parseS s))) 17 [closedF (plOf (parseS s)) (startF (stOf (parseS s)) (stOf (parseS s)).length)] 0 [] [] = q
   cases q <;> rfl
def pat1 : List UInt8 := [91, 97, 45, 99, 93, 43, 49, 63]
def lang1 : Lang := { Accept := [false, true, true], Next := [[1, 1, 1] ++ List.replicate 34 (-1), [1, 1, 1] ++ List.replicate 24 (-1) ++ [2] ++ List.replicate 9 (-1), List.replicate 37 (-1)] }
theorem ex1 : langS pat1 = (lang1, 0) := by rw [langS_F]; decide +kernel
def lang2 : Lang := { Accept := [true], Next := [List.replicate 23 (-1) ++ [0] ++ List.replicate 13 (-1)] }
theorem ex2 : langS [120, 42] = (lang2, 0) := by rw [langS_F]; decide +kernel
theorem ex3 : has lang1 [97, 98, 99, 97, 49] = true ∧ has lang1 [97] = true ∧ has lang1 [49] = false ∧ has lang1 [97, 49, 49] = false := by decide +kernel
theorem ex4 : statesS pat1 = 3 := by unfold statesS; rw [ex1]; decide +kernel
theorem ex5 : statesS [97, 98, 124, 97, 99] = 4 ∧ statesS [120, 42] = 1 ∧ 0 < statesS [91, 45, 97, 93, 98, 42, 124, 99] := by unfold statesS; simp only [langS_F]; decide +kernel
theorem ex6 : statesS [91, 97, 45, 93] = -5 ∧ statesS [97, 43, 43] = -5 ∧ statesS [91, 98, 45, 97, 93] = -5 ∧ statesS [] = -5 := by unfold statesS; simp only [langS_F]; decide +kernel
theorem ex7 : firstS lang1 5 = [[97], [98], [99], [97, 97], [97, 98]] := by decide +kernel
theorem ex8 : firstS lang2 3 = [[], [120], [120, 120]] := by decide +kernel
end Go.Proofs.Ytjnjmnfacaakfaa
namespace Go.Proofs.Ytjnjmnfacaakfaa
open Go.Eng
section
variable {σ : Type} {A : Aut σ}
def accW (A : Aut σ) : σ → List UInt8 → Bool
 | x, [] => A.acc x
 | x, b :: w => decide (0 ≤ sym b.toNat) && accW A (A.step x (sym b.toNat).toNat) w
structure Lawful (A : Aut σ) : Prop where
 same : ∀ x y, A.same y x = true → y = x
 none : ∀ x, A.none x = true → ∀ w, accW A x w = false
structure Found (A : Aut σ) (x0 : σ) (L : List σ) (k : Nat) (B : List Bool) (N : List (List Int)) : Prop where
 lenB : B.length = k
 lenN : N.length = k
 le : k ≤ L.length
 zero : L[0]? = some x0
 acc : ∀ (j : Nat) x, j < k → L[j]? = some x → B.getD j false = A.acc x
 row : ∀ j, j < k → (N.getD j []).length = 37
 nxt : ∀ (j : Nat) x c, j < k → L[j]? = some x → c < 37 → ((N.getD j []).getD c 0 = -1 ∧ A.none (A.step x c) = true) ∨ ∃ i : Nat, (N.getD j []).getD c 0 = i ∧ L[i]? = some (A.step x c) ∧ A.none (A.step x c) = false
 reach : ∀ j, 0 < j → j < L.length → ∃ i c, i < j ∧ i < k ∧ c < 37 ∧ (N.getD i []).getD c 0 = j
theorem idxG_some (h : Lawful A) {x : σ} : ∀ {L : List σ} {i j : Nat}, idxG A x L i = some j → i ≤ j ∧ L[j - i]? = some x
 | [], i, j, e => by cases e
 | y :: L, i, j, e => by
  unfold idxG at e
  split at e
  ·rename_i hs
   cases e
   rw [h.same _ _ hs]
   exact ⟨Nat.le_refl _, by simp⟩
  ·obtain ⟨h1, h2⟩ := idxG_some h e
   refine ⟨by omega, ?_⟩
   obtain ⟨m, rfl⟩ : ∃ m, j = i + 1 + m := ⟨j - (i + 1), by omega⟩
   rw [show i + 1 + m - (i + 1) = m by omega] at h2
   rw [show i + 1 + m - i = m + 1 by omega]
   simpa using h2
theorem rowG_found (h : Lawful A) {x : σ} {L : List σ} : ∀ c, c ≤ 37 → (∃ z, (rowG A x L c).1 = L ++ z) ∧ (rowG A x L c).2.length = c ∧
  (∀ d, d < c → ((rowG A x L c).2.getD d 0 = -1 ∧ A.none (A.step x d) = true) ∨ ∃ i : Nat, (rowG A x L c).2.getD d 0 = i ∧ (rowG A x L c).1[i]? = some (A.step x d) ∧ A.none (A.step x d) = false) ∧
  (∀ j, L.length ≤ j → j < (rowG A x L c).1.length → ∃ d, d < c ∧ (rowG A x L c).2.getD d 0 = j)
 | 0, _ => ⟨⟨[], by simp [rowG]⟩, rfl, fun d hd => by omega, fun j h1 h2 => by simp [rowG] at h2; omega⟩
 | c + 1, hc => by
  obtain ⟨⟨z, e1⟩, e2, e3, e4⟩ := rowG_found h (x := x) (L := L) c (by omega)
  have g1 : ∀ (v : Int) d, d < c → ((rowG A x L c).2 ++ [v]).getD d 0 = (rowG A x L c).2.getD d 0 := fun v d hd => by
   rw [List.getD_eq_getElem?_getD, List.getD_eq_getElem?_getD, List.getElem?_append_left (by omega)]
  have g2 : ∀ v : Int, ((rowG A x L c).2 ++ [v]).getD c 0 = v := fun v => by
   rw [List.getD_eq_getElem?_getD, List.getElem?_append_right (by omega), e2, Nat.sub_self]; rfl
  unfold rowG
  split
  ·rename_i hn
   refine ⟨⟨z, e1⟩, by simp [e2], fun d hd => ?_, fun j h1 h2 => ?_⟩
   ·by_cases hdc : d = c
    ·subst hdc
     exact .inl ⟨g2 _, hn⟩
    ·have := e3 d (by omega)
     simp only [g1 _ d (by omega)]
     exact this
   ·obtain ⟨d, d1, d2⟩ := e4 j h1 h2
    exact ⟨d, by omega, by simp only [g1 _ d d1]; exact d2⟩
  ·rename_i hn
   have hn' : A.none (A.step x c) = false := by simpa using hn
   split
   ·rename_i i hi
    obtain ⟨_, hs⟩ := idxG_some h hi
    rw [Nat.sub_zero] at hs
    refine ⟨⟨z, e1⟩, by simp [e2], fun d hd => ?_, fun j h1 h2 => ?_⟩
    ·by_cases hdc : d = c
     ·subst hdc
      exact .inr ⟨i, g2 _, hs, hn'⟩
     ·simp only [g1 _ d (by omega)]
      exact e3 d (by omega)
    ·obtain ⟨d, d1, d2⟩ := e4 j h1 h2
     exact ⟨d, by omega, by simp only [g1 _ d d1]; exact d2⟩
   ·refine ⟨⟨z ++ [A.step x c], by simp [e1]⟩, by simp [e2], fun d hd => ?_, fun j h1 h2 => ?_⟩
    ·by_cases hdc : d = c
     ·subst hdc
      exact .inr ⟨_, g2 _, by simp, hn'⟩
     ·simp only [g1 _ d (by omega)]
      rcases e3 d (by omega) with h1 | ⟨i, h1, h2, h3⟩
      ·exact .inl h1
      ·refine .inr ⟨i, h1, ?_, h3⟩
       rw [List.getElem?_append_left (List.getElem?_eq_some_iff.1 h2).1]
       exact h2
    ·simp only [List.length_append, List.length_cons, List.length_nil] at h2
     by_cases hj : j = (rowG A x L c).1.length
     ·exact ⟨c, by omega, by rw [hj]; exact g2 _⟩
     ·obtain ⟨d, d1, d2⟩ := e4 j h1 (by omega)
      exact ⟨d, by omega, by simp only [g1 _ d d1]; exact d2⟩
theorem Found.next (h : Lawful A) {x0 x : σ} {L : List σ} {k : Nat} {B : List Bool} {N : List (List Int)} (hf : Found A x0 L k B N) (hx : L[k]? = some x) :
  Found A x0 (rowG A x L 37).1 (k + 1) (B ++ [A.acc x]) (N ++ [(rowG A x L 37).2]) := by
 obtain ⟨⟨z, e1⟩, e2, e3, e4⟩ := rowG_found h (x := x) (L := L) 37 (Nat.le_refl _)
 have hk := (List.getElem?_eq_some_iff.1 hx).1
 have gL : ∀ j, j < L.length → (rowG A x L 37).1[j]? = L[j]? := fun j hj => by rw [e1, List.getElem?_append_left hj]
 have gN : ∀ j, j < k → (N ++ [(rowG A x L 37).2]).getD j [] = N.getD j [] := fun j hj => by
  rw [List.getD_eq_getElem?_getD, List.getD_eq_getElem?_getD, List.getElem?_append_left (by rw [hf.lenN]; exact hj)]
 have gN2 : (N ++ [(rowG A x L 37).2]).getD k [] = (rowG A x L 37).2 := by
  rw [List.getD_eq_getElem?_getD, List.getElem?_append_right (by rw [hf.lenN]; exact Nat.le_refl _), hf.lenN, Nat.sub_self]; rfl
 have gB : ∀ j, j < k → (B ++ [A.acc x]).getD j false = B.getD j false := fun j hj => by
  rw [List.getD_eq_getElem?_getD, List.getD_eq_getElem?_getD, List.getElem?_append_left (by rw [hf.lenB]; exact hj)]
 have gB2 : (B ++ [A.acc x]).getD k false = A.acc x := by
  rw [List.getD_eq_getElem?_getD, List.getElem?_append_right (by rw [hf.lenB]; exact Nat.le_refl _), hf.lenB, Nat.sub_self]; rfl
 have hlen : L.length ≤ (rowG A x L 37).1.length := by rw [e1]; simp
 refine ⟨by simp [hf.lenB], by simp [hf.lenN], by omega, by rw [gL 0 (by omega)]; exact hf.zero, fun j y hj hy => ?_, fun j hj => ?_, fun j y c hj hy hc => ?_, fun j h0 hj => ?_⟩
 ·by_cases hjk : j = k
  ·subst hjk
   rw [gL j hk, hx] at hy
   cases hy
   exact gB2
  ·rw [gL j (by omega)] at hy
   rw [gB j (by omega)]
   exact hf.acc j y (by omega) hy
 ·by_cases hjk : j = k
  ·subst hjk; rw [gN2]; exact e2
  ·rw [gN j (by omega)]; exact hf.row j (by omega)
 ·by_cases hjk : j = k
  ·subst hjk
   rw [gL j hk, hx] at hy
   cases hy
   rw [gN2]
   exact e3 c hc
  ·rw [gL j (by omega)] at hy
   rw [gN j (by omega)]
   rcases hf.nxt j y c (by omega) hy hc with h1 | ⟨i, h1, h2, h3⟩
   ·exact .inl h1
   ·refine .inr ⟨i, h1, ?_, h3⟩
    rw [gL i (List.getElem?_eq_some_iff.1 h2).1]
    exact h2
 ·by_cases hjL : j < L.length
  ·obtain ⟨i, c, h1, h2, h3, h4⟩ := hf.reach j h0 hjL
   exact ⟨i, c, h1, by omega, h3, by rw [gN i h2]; exact h4⟩
  ·obtain ⟨d, d1, d2⟩ := e4 j (by omega) hj
   exact ⟨k, d, by omega, by omega, d1, by rw [gN2]; exact d2⟩
theorem bfsG_found (h : Lawful A) {x0 : σ} : ∀ {n : Nat} {L : List σ} {k : Nat} {B : List Bool} {N : List (List Int)} {l : Lang}, L.length ≤ 16 → Found A x0 L k B N → bfsG A n L k B N = some l →
  ∃ L', L'.length ≤ 16 ∧ Found A x0 L' L'.length l.Accept l.Next
 | 0, _, _, _, _, _, _, _, e => by cases e
 | n + 1, L, k, B, N, l, hL, hf, e => by
  unfold bfsG at e
  split at e
  ·rename_i x hx
   split at e
   ·cases e
   ·exact bfsG_found h (by omega) (hf.next h hx) e
  ·rename_i hx
   cases e
   have : k = L.length := by
    have := List.getElem?_eq_none_iff.1 hx
    have := hf.le
    omega
   subst this
   exact ⟨L, hL, hf⟩
theorem Found.check {x0 : σ} {L : List σ} {l : Lang} (hf : Found A x0 L L.length l.Accept l.Next) (hL : L.length ≤ 16) : check l = 0 := by
 have h0 := (List.getElem?_eq_some_iff.1 hf.zero).1
 have h1 := hf.lenB
 have h2 := hf.lenN
 unfold Go.Proofs.Ytjnjmnfacaakfaa.check
 rw [if_neg (by omega), if_neg (by omega), if_pos]
 intro j hj
 refine ⟨hf.row j (by omega), fun c hc => ?_⟩
 rw [hf.row j (by omega)] at hc
 rcases hf.nxt j (L[j]'(by omega)) c (by omega) (List.getElem?_eq_getElem (by omega)) hc with h3 | ⟨i, h3, h4, _⟩
 ·omega
 ·have := (List.getElem?_eq_some_iff.1 h4).1
  omega
theorem found_start (x0 : σ) : Found A x0 [x0] 0 [] [] where
 lenB := rfl
 lenN := rfl
 le := Nat.zero_le _
 zero := rfl
 acc := fun j x hj => by omega
 row := fun j hj => by omega
 nxt := fun j x c hj => by omega
 reach := fun j h0 hj => by simp at hj; omega
end
/-! ### The program's own -/
theorem spF_zero (ps : List Place) (c : Int) : ∀ i, spF ps 0 c i = 0
 | 0 => rfl
 | i + 1 => by
  unfold spF
  rw [if_neg (by simp), spF_zero ps c i]
theorem clF_zero (ps : List Place) : ∀ i, clF ps 0 i = 0
 | 0 => rfl
 | i + 1 => by
  unfold clF
  rw [clF_zero ps i, if_neg (by simp)]
theorem accF_zero (ps : List Place) : ∀ i, accF ps 0 i = false
 | 0 => rfl
 | i + 1 => by
  unfold accF
  rw [accF_zero ps i]
  simp
theorem accW_zero (ps : List Place) : ∀ w, accW (autF ps) 0 w = false
 | [] => accF_zero ps _
 | b :: w => by
  rw [accW, show (autF ps).step 0 (sym b.toNat).toNat = 0 from by show clF ps (spF ps 0 _ _) _ = 0; rw [spF_zero, clF_zero], accW_zero ps w, Bool.and_false]
theorem lawfulF (ps : List Place) : Lawful (autF ps) where
 same := fun x y h => by simpa [autF] using h
 none := fun x h w => by
  have : x = 0 := by simpa [autF] using h
  subst this
  exact accW_zero ps w
theorem langS_found {s : List UInt8} {l : Lang} (h : langS s = (l, 0)) : ∃ (m : Nat) (L : List Nat), Bits (startS (parseS s)) m ∧ s.length ≤ 64 ∧ (parseS s).isSome = true ∧ L.length ≤ 16 ∧ Found (autF (plOf (parseS s))) m L L.length l.Accept l.Next := by
 rw [langS_F] at h
 unfold langF at h
 split at h
 ·cases h
 ·rename_i hs
  split at h
  ·cases h
  ·rename_i h0
   split at h
   ·rename_i l' hb
    cases h
    obtain ⟨h1, h2, h3⟩ := parseS_bound (s := s)
    have hp : (plOf (parseS s)).length ≤ 127 := by omega
    have hR : Bits (startS (parseS s)) (closedF (plOf (parseS s)) (startF (stOf (parseS s)) (stOf (parseS s)).length)) := cl_bits (start_bits (fun i hi => by have := h1 i hi; omega) _ (Nat.le_refl _)) _ hp
    obtain ⟨L', h4, h5⟩ := bfsG_found (lawfulF _) (by simp) (found_start _) hb
    exact ⟨_, L', hR, by omega, by cases h6 : (parseS s).isSome <;> simp_all, h4, h5⟩
   ·cases h
theorem langS_check {s : List UInt8} {l : Lang} (h : langS s = (l, 0)) : check l = 0 := by
 obtain ⟨m, L, h1, h2, h3, h4, h5⟩ := langS_found h
 exact h5.check h4
end Go.Proofs.Ytjnjmnfacaakfaa
namespace Go.Proofs.Ytjnjmnfacaakfaa
open Go.Eng
section
variable {ps : List Place} {S : Pl}
def Chain (ps : List Place) (i j n : Nat) : Prop := ∀ k, i ≤ k → k < j → k < n ∧ (ps.getD k dPlace).fMore ≠ 0
theorem cl_iff : ∀ (n j : Nat), cl ps S n j = true ↔ ∃ i, i ≤ j ∧ S i = true ∧ Chain ps i j n
 | 0, j => by
  constructor
  ·intro h
   exact ⟨j, Nat.le_refl _, h, fun k h1 h2 => by omega⟩
  ·rintro ⟨i, h1, h2, h3⟩
   have : i = j := by
    by_cases h : i < j
    ·have := (h3 i (Nat.le_refl _) h).1; omega
    ·omega
   subst this
   exact h2
 | n + 1, j => by
  unfold cl
  split
  ·rename_i hc
   obtain ⟨i0, a1, a2, a3⟩ := (cl_iff n n).1 hc.1
   unfold upd
   by_cases hj : j = n + 1
   ·rw [if_pos hj]
    refine ⟨fun _ => ⟨i0, by omega, a2, fun k h1 h2 => ?_⟩, fun _ => rfl⟩
    by_cases hk : k = n
    ·subst hk; exact ⟨by omega, hc.2⟩
    ·have := a3 k h1 (by omega); exact ⟨by omega, this.2⟩
   ·rw [if_neg hj, cl_iff n j]
    constructor
    ·rintro ⟨i, h1, h2, h3⟩
     exact ⟨i, h1, h2, fun k k1 k2 => ⟨by have := (h3 k k1 k2).1; omega, (h3 k k1 k2).2⟩⟩
    ·rintro ⟨i, h1, h2, h3⟩
     refine ⟨i, h1, h2, fun k k1 k2 => ⟨?_, (h3 k k1 k2).2⟩⟩
     have := (h3 k k1 k2).1
     have := (h3 (j - 1) (by omega) (by omega)).1
     omega
  ·rename_i hc
   rw [cl_iff n j]
   constructor
   ·rintro ⟨i, h1, h2, h3⟩
    exact ⟨i, h1, h2, fun k k1 k2 => ⟨by have := (h3 k k1 k2).1; omega, (h3 k k1 k2).2⟩⟩
   ·rintro ⟨i, h1, h2, h3⟩
    refine ⟨i, h1, h2, fun k k1 k2 => ⟨?_, (h3 k k1 k2).2⟩⟩
    have q1 := (h3 k k1 k2).1
    by_cases hk : k = n
    ·exfalso
     subst hk
     refine hc ⟨(cl_iff k k).2 ⟨i, k1, h2, fun m m1 m2 => ⟨m2, (h3 m m1 (by omega)).2⟩⟩, (h3 k k1 k2).2⟩
    ·omega
theorem closedS_iff (j : Nat) : closedS ps S j = true ↔ ∃ i, i ≤ j ∧ S i = true ∧ Chain ps i j ps.length := cl_iff _ _
theorem acc_iff : ∀ n, acc ps S n = true ↔ ∃ j, j < n ∧ (ps.getD j dPlace).fEnd = true ∧ S j = true
 | 0 => by simp [acc]
 | n + 1 => by
  unfold acc
  rw [Bool.or_eq_true, acc_iff n, Bool.and_eq_true]
  constructor
  ·rintro (⟨j, h1, h2⟩ | h)
   ·exact ⟨j, by omega, h2⟩
   ·exact ⟨n, by omega, h⟩
  ·rintro ⟨j, h1, h2⟩
   by_cases hj : j = n
   ·subst hj; exact .inr h2
   ·exact .inl ⟨j, by omega, h2⟩
def nxt (ps : List Place) (i : Nat) : Nat := if (ps.getD i dPlace).fMore = 42 then i else i + 1
theorem sp_iff {c : Int} : ∀ (n j : Nat), sp ps S c n j = true ↔ ∃ i, i < n ∧ S i = true ∧ bitOf (ps.getD i dPlace).fSet c = true ∧ j = nxt ps i
 | 0, j => by simp [sp]
 | n + 1, j => by
  have key : sp ps S c (n + 1) j = true ↔ (sp ps S c n j = true ∨ (S n = true ∧ bitOf (ps.getD n dPlace).fSet c = true ∧ j = nxt ps n)) := by
   rw [sp]
   by_cases hc : S n = true ∧ bitOf (ps.getD n dPlace).fSet c = true
   ·rw [if_pos hc]
    unfold nxt
    by_cases hm : (ps.getD n dPlace).fMore = 42
    ·rw [if_pos hm, if_pos hm]
     unfold upd
     by_cases hj : j = n
     ·rw [if_pos hj]; exact ⟨fun _ => .inr ⟨hc.1, hc.2, hj⟩, fun _ => rfl⟩
     ·rw [if_neg hj]; exact ⟨.inl, fun h => h.elim id fun h => absurd h.2.2 hj⟩
    ·rw [if_neg hm, if_neg hm]
     unfold upd
     by_cases hj : j = n + 1
     ·rw [if_pos hj]; exact ⟨fun _ => .inr ⟨hc.1, hc.2, hj⟩, fun _ => rfl⟩
     ·rw [if_neg hj]; exact ⟨.inl, fun h => h.elim id fun h => absurd h.2.2 hj⟩
   ·rw [if_neg hc]
    exact ⟨.inl, fun h => h.elim id fun h => absurd ⟨h.1, h.2.1⟩ hc⟩
  rw [key, sp_iff n j]
  constructor
  ·rintro (⟨i, h1, h2⟩ | h)
   ·exact ⟨i, by omega, h2⟩
   ·exact ⟨n, by omega, h⟩
  ·rintro ⟨i, h1, h2⟩
   by_cases hi : i = n
   ·subst hi; exact .inr h2
   ·exact .inl ⟨i, by omega, h2⟩
end
theorem startAt_iff {st : List Int} : ∀ (n j : Nat), startAt st n j = true ↔ ∃ i, i < n ∧ (st.getD i 0).toNat = j
 | 0, j => by simp [startAt, noSet]
 | n + 1, j => by
  unfold startAt upd
  by_cases hj : j = (st.getD n 0).toNat
  ·rw [if_pos hj]
   exact ⟨fun _ => ⟨n, by omega, hj.symm⟩, fun _ => rfl⟩
  ·rw [if_neg hj, startAt_iff n j]
   constructor
   ·rintro ⟨i, h1, h2⟩
    exact ⟨i, by omega, h2⟩
   ·rintro ⟨i, h1, h2⟩
    by_cases hi : i = n
    ·subst hi; exact absurd h2.symm hj
    ·exact ⟨i, by omega, h2⟩
end Go.Proofs.Ytjnjmnfacaakfaa
namespace Go.Proofs.Ytjnjmnfacaakfaa
open Go.Eng
def parseB : Nat → List Place → List UInt8 → Option (List (List Place))
 | 0, _, _ => none
 | n + 1, cur, r => if r = [] ∨ ((r.getD 0 0).toNat : Int) = 124 then
   (if cur = [] then none else if r = [] then some [cur ++ [endP]] else (parseB n [] (r.drop 1)).map fun bs => (cur ++ [endP]) :: bs)
  else if (pSet r).isSome = true then
   (if pMore (pSet r) = 43 then parseB n (cur ++ [({ fSet := cSet (pSet r) } : Place)] ++ [({ fSet := cSet (pSet r), fMore := 42 } : Place)]) (pRest (pSet r))
    else parseB n (cur ++ [({ fSet := cSet (pSet r), fMore := pMore (pSet r) } : Place)]) (pRest (pSet r)))
  else none
def branchesS (s : List UInt8) : Option (List (List Place)) := parseB (s.length + 1) [] s
def offs : Nat → List (List Place) → List Int
 | _, [] => []
 | d, b :: bs => (d : Int) :: offs (d + b.length) bs
theorem parseB_ne : ∀ {k : Nat} {cur : List Place} {r : List UInt8} {bs : List (List Place)}, parseB k cur r = some bs → bs ≠ []
 | 0, _, _, _, h => by cases h
 | k + 1, cur, r, bs, h => by
  unfold parseB at h
  split at h
  ·split at h
   ·cases h
   ·split at h
    ·cases h; simp
    ·rw [Option.map_eq_some_iff] at h
     obtain ⟨y, _, rfl⟩ := h
     simp
  ·split at h
   ·split at h
    ·exact parseB_ne h
    ·exact parseB_ne h
   ·cases h
theorem parseM_B : ∀ {k : Nat} {dn cur : List Place} {st : List Int} {r : List UInt8}, 0 < st.length → st.getD (st.length - 1) 0 = (dn.length : Int) →
  parseM k (dn ++ cur) st r = (parseB k cur r).map fun bs => (dn ++ bs.flatten, st ++ (offs dn.length bs).tail)
 | 0, _, _, _, _, _, _ => rfl
 | k + 1, dn, cur, st, r, h0, h1 => by
  unfold parseM parseB
  have e1 : ((st.length : Int) - 1).toNat = st.length - 1 := by omega
  rw [e1, h1]
  by_cases hr : r = [] ∨ ((r.getD 0 0).toNat : Int) = 124
  ·rw [if_pos hr, if_pos hr]
   by_cases hc : cur = []
   ·subst hc
    rw [if_pos (by simp), if_pos rfl]; rfl
   ·have hcl := List.length_pos_iff.2 hc
    rw [if_neg (by simp; omega), if_neg hc]
    by_cases hn : r = []
    ·rw [if_pos hn, if_pos hn]
     simp [offs]
    ·rw [if_neg hn, if_neg hn]
     have ih := parseM_B (k := k) (dn := dn ++ cur ++ [endP]) (cur := []) (st := st ++ [(((dn ++ cur ++ [endP]).length : Nat) : Int)]) (r := r.drop 1) (by simp)
      (by simp [List.getD_eq_getElem?_getD])
     rw [List.append_nil] at ih
     rw [ih]
     cases hb : parseB k [] (r.drop 1) with
     | none => rfl
     | some bs =>
      cases bs with
      | nil => exact absurd rfl (parseB_ne hb)
      | cons b bs =>
       simp only [Option.map_some, List.flatten_cons, List.append_assoc, offs, List.tail_cons, List.length_append, List.length_cons, List.length_nil, List.cons_append, List.nil_append, Option.some.injEq, Prod.mk.injEq, true_and, Nat.zero_add]
  ·rw [if_neg hr, if_neg hr]
   by_cases hs : (pSet r).isSome = true
   ·rw [if_pos hs, if_pos hs]
    by_cases hm : pMore (pSet r) = 43
    ·rw [if_pos hm, if_pos hm]
     have ih := parseM_B (k := k) (dn := dn) (cur := cur ++ [({ fSet := cSet (pSet r) } : Place)] ++ [({ fSet := cSet (pSet r), fMore := 42 } : Place)]) (st := st) (r := pRest (pSet r)) h0 h1
     rw [← ih]
     simp only [List.append_assoc]
    ·rw [if_neg hm, if_neg hm]
     have ih := parseM_B (k := k) (dn := dn) (cur := cur ++ [({ fSet := cSet (pSet r), fMore := pMore (pSet r) } : Place)]) (st := st) (r := pRest (pSet r)) h0 h1
     rw [← ih]
     simp only [List.append_assoc]
   ·rw [if_neg hs, if_neg hs]; rfl
theorem parseS_B (s : List UInt8) : parseS s = (branchesS s).map fun bs => (bs.flatten, offs 0 bs) := by
 have h := parseM_B (k := s.length + 1) (dn := []) (cur := []) (st := [0]) (r := s) (by simp) rfl
 unfold parseS branchesS
 rw [List.append_nil] at h
 rw [h]
 cases hb : parseB (s.length + 1) [] s with
 | none => rfl
 | some bs =>
  cases bs with
  | nil => exact absurd rfl (parseB_ne hb)
  | cons b bs => simp [offs]
/-! ### A branch alone -/
theorem bit0 (c : Nat) : bitOf 0 c = false := by
 unfold bitOf
 have : (0 : Int).fdiv (2 ^ min (c : Int).toNat (IntKind.bits .u64)) = 0 := Int.zero_fdiv _
 rw [this]
 rfl
/-! ### A bar between two patterns -/
end Go.Proofs.Ytjnjmnfacaakfaa
namespace Go.Proofs.Ytjnjmnfacaakfaa
open Go.Eng
end Go.Proofs.Ytjnjmnfacaakfaa
namespace Go.Proofs.Ytjnjmnfacaakfaa
open Go.Eng
theorem sanity_ok  : Pure Try.prog 8 [] (vbool true) := by
 refine pure_of (fn := Try.f8) Try.func8 rfl rfl fun F_ W0_ => ?_
 refine tr_seq (q_t [] [] [] (tr_then (tr_seq (q_r [Pure Try.prog 11 [.s ([91, 97, 45, 99, 93, 43, 49, 63] : List UInt8)] (.tup [.p (eLang ((langS ([91, 97, 45, 99, 93, 43, 49, 63] : List UInt8)).1)), vint .i64 ((langS ([91, 97, 45, 99, 93, 43, 49, 63] : List UInt8)).2)]), (.p (eLang ((langS ([91, 97, 45, 99, 93, 43, 49, 63] : List UInt8)).1)) : D) = .p (eLang lang1), ((langS ([91, 97, 45, 99, 93, 43, 49, 63] : List UInt8)).2) = 0] [1, 2] [.ref 0 [], vint .i64 0] [.box (.p (eLang lang1))] [(2, .p (eLang lang1)), (3, vint .i64 0)] [(0, .tup [.p (eLang ((langS ([91, 97, 45, 99, 93, 43, 49, 63] : List UInt8)).1)), vint .i64 ((langS ([91, 97, 45, 99, 93, 43, 49, 63] : List UInt8)).2)])] (al (Parse_ok _ (by (simp; done))) (al (congrArg (fun x => D.p (eLang x)) (congrArg Prod.fst ex1)) (al (congrArg Prod.snd ex1) (trivial)))) (tr_then (tr_seq (tr_seq (q_k [((0 : Int) != 0) = false, (!false) = true → (!false) = true, (!false) = true → (Pure Try.prog 16 [eLang lang1, .s ([97, 98, 99, 97, 49] : List UInt8)] (vbool (has lang1 ([97, 98, 99, 97, 49] : List UInt8)))), (!false) = true → (!false) = true, (!false) = true → ((!(has lang1 ([97, 98, 99, 97, 49] : List UInt8))) = false), (!false) = true → (!false) = true, (!(false || false)) = true → (!(false || false)) = true, (!(false || false)) = true → (Pure Try.prog 16 [eLang lang1, .s ([97] : List UInt8)] (vbool (has lang1 ([97] : List UInt8)))), (!(false || false)) = true → (!(false || false)) = true, (!(false || false)) = true → ((!(has lang1 ([97] : List UInt8))) = false), (!(false || false)) = true → (!(false || false)) = true, (!((false || false) || false)) = true → (!((false || false) || false)) = true, (!((false || false) || false)) = true → (Pure Try.prog 16 [eLang lang1, .s ([49] : List UInt8)] (vbool (has lang1 ([49] : List UInt8)))), (!((false || false) || false)) = true → (!((false || false) || false)) = true, (!(((false || false) || false) || (has lang1 ([49] : List UInt8)))) = true → (!(((false || false) || false) || (has lang1 ([49] : List UInt8)))) = true, (!(((false || false) || false) || (has lang1 ([49] : List UInt8)))) = true → (Pure Try.prog 16 [eLang lang1, .s ([97, 49, 49] : List UInt8)] (vbool (has lang1 ([97, 49, 49] : List UInt8)))), (!(((false || false) || false) || (has lang1 ([49] : List UInt8)))) = true → (!(((false || false) || false) || (has lang1 ([49] : List UInt8)))) = true] [1, 31] [.ref 0 [], vbool ((((false || false) || false) || (has lang1 ([49] : List UInt8))) || (has lang1 ([97, 49, 49] : List UInt8)))] [(1, vbool false), (5, vbool false), (10, vbool false)] [(4, vbool (has lang1 ([97, 98, 99, 97, 49] : List UInt8))), (9, vbool (has lang1 ([97] : List UInt8))), (14, vbool (has lang1 ([49] : List UInt8))), (18, vbool (has lang1 ([97, 49, 49] : List UInt8)))] (al (by simp; done) (al id (al (by intro _; exact has_ok _ _ (by (simp; done))) (al id (al (by intro _; rw [ex3.1]; rfl) (al id (al id (al (by intro _; exact has_ok _ _ (by (simp; done))) (al id (al (by intro _; rw [ex3.2.1]; rfl) (al id (al id (al (by intro _; exact has_ok _ _ (by (simp; done))) (al id (al id (al (by intro _; exact has_ok _ _ (by (simp; done))) (al id (trivial)))))))))))))))))) (tr_then (q_c ((((false || false) || false) || (has lang1 ([49] : List UInt8))) || (has lang1 ([97, 49, 49] : List UInt8))) (((((false = true) ∨ (false = true)) ∨ (false = true)) ∨ ((has lang1 ([49] : List UInt8)) = true)) ∨ ((has lang1 ([97, 49, 49] : List UInt8)) = true)) (fun hc1 => (absurd hc1 (by simp [ex3.2.2.1, ex3.2.2.2]))) (fun hc1 => ?_)))))))))))
 ·refine tr_skip (tr_then (tr_seq (q_r [Pure Try.prog 11 [.s ([120, 42] : List UInt8)] (.tup [.p (eLang ((langS ([120, 42] : List UInt8)).1)), vint .i64 ((langS ([120, 42] : List UInt8)).2)]), (.p (eLang ((langS ([120, 42] : List UInt8)).1)) : D) = .p (eLang lang2), ((langS ([120, 42] : List UInt8)).2) = 0] [1, 3, 4] [.ref 0 [], .ref 1 [], vint .i64 0] [.box (.p (eLang lang1)), .box (.p (eLang lang2))] [(2, .p (eLang lang2)), (3, vint .i64 0)] [(0, .tup [.p (eLang ((langS ([120, 42] : List UInt8)).1)), vint .i64 ((langS ([120, 42] : List UInt8)).2)])] (al (Parse_ok _ (by (simp; done))) (al (congrArg (fun x => D.p (eLang x)) (congrArg Prod.fst ex2)) (al (congrArg Prod.snd ex2) (trivial)))) (tr_then (tr_seq (q_k [Pure Try.prog 14 [eLang lang1, .v (.int .i64 5)] (.p ((eL eS 1 []) (firstS lang1 5))), ∀ j, j < 5 → ([.s ([97] : List UInt8), .s ([98] : List UInt8), .s ([99] : List UInt8), .s ([97, 97] : List UInt8), .s ([97, 98] : List UInt8)] : List PV).getD j default = (fun i => eS (([([97] : List UInt8), ([98] : List UInt8), ([99] : List UInt8), ([97, 97] : List UInt8), ([97, 98] : List UInt8)]).getD i [])) j, Pure Try.prog 23 [(eL eS 1 []) (firstS lang1 5), (eL eS 1 []) ([([97] : List UInt8), ([98] : List UInt8), ([99] : List UInt8), ([97, 97] : List UInt8), ([97, 98] : List UInt8)])] (vbool (decide ((firstS lang1 5) = ([([97] : List UInt8), ([98] : List UInt8), ([99] : List UInt8), ([97, 97] : List UInt8), ([97, 98] : List UInt8)])))), (decide ((firstS lang1 5) = ([([97] : List UInt8), ([98] : List UInt8), ([99] : List UInt8), ([97, 97] : List UInt8), ([97, 98] : List UInt8)]))) = true, true = true → true = true, true = true → (((0 : Int) == 0) = true), true = true → true = true, (true || false) = true → (true || false) = true, (true || false) = true → (Pure Try.prog 14 [eLang lang2, .v (.int .i64 3)] (.p ((eL eS 1 []) (firstS lang2 3)))), (true || false) = true → (∀ j, j < 3 → ([.s ([] : List UInt8), .s ([120] : List UInt8), .s ([120, 120] : List UInt8)] : List PV).getD j default = (fun i => eS (([([] : List UInt8), ([120] : List UInt8), ([120, 120] : List UInt8)]).getD i [])) j), (true || false) = true → (true || false) = true, (true || false) = true → (true || false) = true, (true || false) = true → (Pure Try.prog 23 [(eL eS 1 []) (firstS lang2 3), (eL eS 1 []) ([([] : List UInt8), ([120] : List UInt8), ([120, 120] : List UInt8)])] (vbool (decide ((firstS lang2 3) = ([([] : List UInt8), ([120] : List UInt8), ([120, 120] : List UInt8)]))))), (true || false) = true → (true || false) = true] [5] [vbool ((true || false) && (decide ((firstS lang2 3) = ([([] : List UInt8), ([120] : List UInt8), ([120, 120] : List UInt8)]))))] [(4, vbool true), (6, vbool true)] [(1, .p ((eL eS 1 []) (firstS lang1 5))), (2, .p ((eL eS 1 []) ([([97] : List UInt8), ([98] : List UInt8), ([99] : List UInt8), ([97, 97] : List UInt8), ([97, 98] : List UInt8)]))), (3, vbool (decide ((firstS lang1 5) = ([([97] : List UInt8), ([98] : List UInt8), ([99] : List UInt8), ([97, 97] : List UInt8), ([97, 98] : List UInt8)])))), (10, .p ((eL eS 1 []) (firstS lang2 3))), (11, .p ((eL eS 1 []) ([([] : List UInt8), ([120] : List UInt8), ([120, 120] : List UInt8)]))), (12, vbool (decide ((firstS lang2 3) = ([([] : List UInt8), ([120] : List UInt8), ([120, 120] : List UInt8)]))))] (al (First_ok _ _) (al (lit_pv (e := eS) (d := []) (l := [([97] : List UInt8), ([98] : List UInt8), ([99] : List UInt8), ([97, 97] : List UInt8), ([97, 98] : List UInt8)])) (al (sameTexts_ok _ _ (by rw [ex7]; decide)) (al (decide_eq_true ex7) (al id (al (by simp; done) (al id (al id (al (by intro _; exact First_ok _ _) (al (by intro _; exact lit_pv (e := eS) (d := []) (l := [([] : List UInt8), ([120] : List UInt8), ([120, 120] : List UInt8)])) (al id (al id (al (by intro _; exact sameTexts_ok _ _ (by rw [ex8]; decide)) (al id (trivial))))))))))))))) (tr_then (tr_seq (q_k [Pure Try.prog 29 [.s ([91, 97, 45, 99, 93, 43, 49, 63] : List UInt8)] (vint .i64 (statesS ([91, 97, 45, 99, 93, 43, 49, 63] : List UInt8))), ((statesS ([91, 97, 45, 99, 93, 43, 49, 63] : List UInt8)) == 3) = true, true = true → (Pure Try.prog 29 [.s ([97, 98, 124, 97, 99] : List UInt8)] (vint .i64 (statesS ([97, 98, 124, 97, 99] : List UInt8)))), true = true → true = true, true = true → (((statesS ([97, 98, 124, 97, 99] : List UInt8)) == 4) = true), true = true → true = true, (true || false) = true → (Pure Try.prog 29 [.s ([120, 42] : List UInt8)] (vint .i64 (statesS ([120, 42] : List UInt8)))), (true || false) = true → (true || false) = true, (true || false) = true → (((statesS ([120, 42] : List UInt8)) == 1) = true), (true || false) = true → (true || false) = true, ((true || false) || false) = true → (Pure Try.prog 29 [.s ([91, 45, 97, 93, 98, 42, 124, 99] : List UInt8)] (vint .i64 (statesS ([91, 45, 97, 93, 98, 42, 124, 99] : List UInt8)))), ((true || false) || false) = true → ((true || false) || false) = true, ((true || false) || false) = true → ((decide (0 < (statesS ([91, 45, 97, 93, 98, 42, 124, 99] : List UInt8)))) = true), ((true || false) || false) = true → ((true || false) || false) = true] [5, 6] [vbool ((true || false) && (decide ((firstS lang2 3) = ([([] : List UInt8), ([120] : List UInt8), ([120, 120] : List UInt8)])))), vbool (((true || false) || false) || false)] [(1, vbool true), (4, vbool true), (8, vbool true), (12, vbool true)] [(0, vint .i64 (statesS ([91, 97, 45, 99, 93, 43, 49, 63] : List UInt8))), (3, vint .i64 (statesS ([97, 98, 124, 97, 99] : List UInt8))), (7, vint .i64 (statesS ([120, 42] : List UInt8))), (11, vint .i64 (statesS ([91, 45, 97, 93, 98, 42, 124, 99] : List UInt8)))] (al (states_ok _ (by (simp; done))) (al (beq_iff_eq.2 ex4) (al (by intro _; exact states_ok _ (by (simp; done))) (al id (al (by intro _; exact beq_iff_eq.2 ex5.1) (al id (al (by intro _; exact states_ok _ (by (simp; done))) (al id (al (by intro _; exact beq_iff_eq.2 ex5.2.1) (al id (al (by intro _; exact states_ok _ (by (simp; done))) (al id (al (by intro _; exact decide_eq_true ex5.2.2) (al id (trivial))))))))))))))) (tr_then (tr_seq (q_m [5, 6, 7] [vbool ((true || false) && (decide ((firstS lang2 3) = ([([] : List UInt8), ([120] : List UInt8), ([120, 120] : List UInt8)])))), vbool (((true || false) || false) || false), vint .i64 (-5)] (tr_then (tr_seq (q_k [((true || false) && (decide ((firstS lang2 3) = ([([] : List UInt8), ([120] : List UInt8), ([120, 120] : List UInt8)])))) = true, true = true → true = true, (true && (((true || false) || false) || false)) = true → (Pure Try.prog 29 [.s ([91, 97, 45, 93] : List UInt8)] (vint .i64 (statesS ([91, 97, 45, 93] : List UInt8)))), (true && (((true || false) || false) || false)) = true → (true && (((true || false) || false) || false)) = true, (true && (((true || false) || false) || false)) = true → (true && (((true || false) || false) || false)) = true, (true && (((true || false) || false) || false)) = true → (((statesS ([91, 97, 45, 93] : List UInt8)) == (-5)) = true), (true && (((true || false) || false) || false)) = true → (true && (((true || false) || false) || false)) = true, ((true && (((true || false) || false) || false)) || false) = true → (Pure Try.prog 29 [.s ([97, 43, 43] : List UInt8)] (vint .i64 (statesS ([97, 43, 43] : List UInt8)))), ((true && (((true || false) || false) || false)) || false) = true → ((true && (((true || false) || false) || false)) || false) = true, ((true && (((true || false) || false) || false)) || false) = true → ((true && (((true || false) || false) || false)) || false) = true, ((true && (((true || false) || false) || false)) || false) = true → (((statesS ([97, 43, 43] : List UInt8)) == (-5)) = true), ((true && (((true || false) || false) || false)) || false) = true → ((true && (((true || false) || false) || false)) || false) = true, (((true && (((true || false) || false) || false)) || false) || false) = true → (Pure Try.prog 29 [.s ([91, 98, 45, 97, 93] : List UInt8)] (vint .i64 (statesS ([91, 98, 45, 97, 93] : List UInt8)))), (((true && (((true || false) || false) || false)) || false) || false) = true → (((true && (((true || false) || false) || false)) || false) || false) = true, (((true && (((true || false) || false) || false)) || false) || false) = true → (((true && (((true || false) || false) || false)) || false) || false) = true, (((true && (((true || false) || false) || false)) || false) || false) = true → (((statesS ([91, 98, 45, 97, 93] : List UInt8)) == (-5)) = true), (((true && (((true || false) || false) || false)) || false) || false) = true → (((true && (((true || false) || false) || false)) || false) || false) = true, ((((true && (((true || false) || false) || false)) || false) || false) || false) = true → (Pure Try.prog 29 [.s ([] : List UInt8)] (vint .i64 (statesS ([] : List UInt8)))), ((((true && (((true || false) || false) || false)) || false) || false) || false) = true → ((((true && (((true || false) || false) || false)) || false) || false) || false) = true, ((((true && (((true || false) || false) || false)) || false) || false) || false) = true → ((((true && (((true || false) || false) || false)) || false) || false) || false) = true, ((((true && (((true || false) || false) || false)) || false) || false) || false) = true → (((statesS ([] : List UInt8)) == (-5)) = true), ((((true && (((true || false) || false) || false)) || false) || false) || false) = true → ((((true && (((true || false) || false) || false)) || false) || false) || false) = true] [0] [vbool (((((true && (((true || false) || false) || false)) || false) || false) || false) || false)] [(0, vbool true), (7, vbool true), (12, vbool true), (17, vbool true), (22, vbool true)] [(5, vint .i64 (statesS ([91, 97, 45, 93] : List UInt8))), (10, vint .i64 (statesS ([97, 43, 43] : List UInt8))), (15, vint .i64 (statesS ([91, 98, 45, 97, 93] : List UInt8))), (20, vint .i64 (statesS ([] : List UInt8)))] (al (by rw [decide_eq_true ex8]; rfl) (al id (al (by intro _; exact states_ok _ (by (simp; done))) (al id (al id (al (by intro _; exact beq_iff_eq.2 ex6.1) (al id (al (by intro _; exact states_ok _ (by (simp; done))) (al id (al id (al (by intro _; exact beq_iff_eq.2 ex6.2.1) (al id (al (by intro _; exact states_ok _ (by (simp; done))) (al id (al id (al (by intro _; exact beq_iff_eq.2 ex6.2.2.1) (al id (al (by intro _; exact states_ok _ (by (simp; done))) (al id (al id (al (by intro _; exact beq_iff_eq.2 ex6.2.2.2) (al id (trivial))))))))))))))))))))))) (tr_then (tr_pre (E' := [(0, none, vbool (((((true && (((true || false) || false) || false)) || false) || false) || false) || false))]) (H' := []) (fun _ _ h => q_w [] [0] h) (q_i (d := vbool (((((true && (((true || false) || false) || false)) || false) || false) || false) || false)) 0 (vbool true) ?_ ?_))))))))))))))))))
  ·refine imp_eq (congrArg (fun x => D.p (eB x)) (a₁ := (((((true && (((true || false) || false) || false)) || false) || false) || false) || false)) (a₂ := true) ?_)
   first | rfl | (simp; done) | omega | (simp_all; done) | grind
  exact q_z [vbool true] (fun _ _ h => h)
end Go.Proofs.Ytjnjmnfacaakfaa
namespace Go.Proofs.Ytjnjmnfacaakfaa
open Go.Eng
theorem patS_len (l : List Int) : (patS l).length ≤ 56 := by
 have hv := nextV_lt ({ L := l, At := 0 } : Draw) (n := 2) (by omega)
 have := (branches_ok l (1 + nextV { L := l, At := 0 } 2).toNat).2
 unfold patS
 omega
theorem word_len (l : List Int) : (word l).length ≤ 8 := by unfold word; simp; omega
end Go.Proofs.Ytjnjmnfacaakfaa
namespace Go.Eng
theorem app_of {α : Type} {e : α → PV} {d : α} {f : Nat → D} {n : Nat} {xs ys : List α} (hn : n = xs.length) (h : ∀ j, j < n → f j = .p (e (xs.getD j d))) : ∀ j, j < n + ys.length → appF f n (fun j => .p (e (ys.getD j d))) j = .p (e ((xs ++ ys).getD j d)) := by
 subst hn
 intro j hj
 rw [← appN (xs := xs) (ys := ys) j hj]
 unfold appF
 split
 ·rename_i hlt
  exact h j hlt
 ·rfl
end Go.Eng
namespace Go.Proofs.Ytjnjmnfacaakfaa
open Go.Eng
end Go.Proofs.Ytjnjmnfacaakfaa
namespace Go.Proofs.Ytjnjmnfacaakfaa
open Go.Eng
structure Piece where
 Set : (Nat → Bool) := (fun _ => false)
 More : Int := 0
def dPiece : Piece := {}
def ePiece (x : Piece) : PV := .agg [(eA eB 1 37) x.Set, (eK .u8) x.More]
end Go.Proofs.Ytjnjmnfacaakfaa
