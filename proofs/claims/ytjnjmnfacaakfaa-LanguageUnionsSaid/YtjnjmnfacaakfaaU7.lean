/-
  LanguageUnions: whatever the input, the call returns true, and each argument reads afterwards as it read before. No conditions.
-/
import Derived.Test.YtjnjmnfacaakfaaU6
import Derived.Test.YtjnjmnfacaakfaaRows
namespace Go.Proofs.Ytjnjmnfacaakfaa
open Go.Eng

def unA (l : List Int) : Lang := (langS (patS (l.take 24))).1
def unC (l m : List Int) : Lang := (langS (patS (l.take 24) ++ ([124] : List UInt8) ++ patS (m.take 24))).1
theorem bar_len (l m : List Int) : (patS (l.take 24) ++ ([124] : List UInt8) ++ patS (m.take 24)).length ≤ 113 := by
  have h1 := patS_len (l.take 24)
  have h2 := patS_len (m.take 24)
  simp only [List.length_append, List.length_cons, List.length_nil]
  omega
theorem bar_err (l m : List Int) : (langS (patS (l.take 24) ++ ([124] : List UInt8) ++ patS (m.take 24))).2 = 0 ∨ (langS (patS (l.take 24) ++ ([124] : List UInt8) ++ patS (m.take 24))).2 = 2 :=
  langS_ok (union_ok (patS_branches _) (patS_branches _))
theorem firstS_short {l : Lang} {m : Int} (x : List UInt8) (h : x ∈ firstS l m) : x.length ≤ 12 := (firstS_mem h).1
theorem firstS_10 {l : Lang} : (firstS l 10).length ≤ 10 := by have := firstS_len (l := l) (m := 10) (by omega); omega
theorem union_has {l m : List Int} (h1 : (langS (patS (l.take 24))).2 = 0) (h2 : (langS (patS (m.take 24))).2 = 0) (h3 : (langS (patS (l.take 24) ++ ([124] : List UInt8) ++ patS (m.take 24))).2 = 0) (w : List UInt8) : has (unC l m) w = (has (unA l) w || has (unA m) w) :=
  langS_union (Prod.ext rfl h1) (Prod.ext rfl h2) (Prod.ext rfl h3) w
theorem short_get {W : List (List UInt8)} {q : Nat} (h : ∀ x ∈ W, x.length ≤ 12) : (W.getD q []).length ≤ 12 := by
  by_cases hq : q < W.length
  · rw [List.getD_eq_getElem?_getD, List.getElem?_eq_getElem hq]
    exact h _ (List.getElem_mem hq)
  · rw [List.getD_eq_getElem?_getD, List.getElem?_eq_none (by omega)]; simp
theorem short_app {W V : List (List UInt8)} (h : ∀ x ∈ W, x.length ≤ 12) (h1 : ∀ x ∈ V, x.length ≤ 12) : ∀ x ∈ W ++ V, x.length ≤ 12 := fun x hx => (List.mem_append.1 hx).elim (h x) (h1 x)
theorem short_word (l : List Int) : ∀ x ∈ [word l], x.length ≤ 12 := fun x hx => by rw [List.mem_singleton.1 hx]; have := word_len l; omega
theorem short_nil : ∀ x ∈ [([] : List UInt8)], x.length ≤ 12 := fun x hx => by rw [List.mem_singleton.1 hx]; simp

theorem unions_ok (l : List Int) (m : List Int) (n : List (List Int)) (hb0 : n.length < 4611686018427387904) (hb1 : ∀ k, k < n.length → (n.getD k []).length < 4611686018427387904) : Pure Try.prog 4 [(eL eI 1 0) l, (eL eI 1 0) m, (eL (eL eI 1 0) 1 []) n] (vbool true) := by
  have hp1 := patS_len (l.take 24)
  have hp2 := patS_len (m.take 24)
  have hp3 := bar_len l m
  have he3 := bar_err l m
  have hf1 := firstS_10 (l := unA l)
  have hf2 := firstS_10 (l := unA m)
  have hf3 := firstS_10 (l := unC l m)
  refine pure_of (fn := Try.f4) Try.func4 rfl rfl fun F_ W0_ => ?_
  refine tr_seq ?_
  refine tr_r (vc := []) (E' := [(0, none, .p ((eL eI 1 0) l)), (1, none, .p ((eL eI 1 0) m)), (2, none, .p ((eL (eL eI 1 0) 1 []) n))]) (H' := []) [] [] [0, 1, 2] (by kernel_rfl) ?_ ?_
  · exact trivial
  refine tr_then ?_
  refine tr_seq ?_
  refine tr_r (vc := [Pure Try.prog 8 [] (vbool true)]) (E' := [(0, none, .p ((eL eI 1 0) l)), (1, none, .p ((eL eI 1 0) m)), (2, none, .p ((eL (eL eI 1 0) 1 []) n)), (7, none, vbool true)]) (H' := []) [] [(0, vbool true)] [0, 1, 2, 7] (by kernel_rfl) ?_ ?_
  · refine al ?_ (trivial)
    · exact sanity_ok -- r1.0
  refine tr_then ?_
  refine tr_seq ?_
  refine tr_r (vc := [Pure Try.prog 10 [(eL eI 1 0) l] (.p ((eL eI 1 0) (l.take 24))), Pure Try.prog 9 [(eL eI 1 0) (l.take 24)] (vstr (patS (l.take 24))), Pure Try.prog 10 [(eL eI 1 0) m] (.p ((eL eI 1 0) (m.take 24))), Pure Try.prog 9 [(eL eI 1 0) (m.take 24)] (vstr (patS (m.take 24)))]) (E' := [(2, none, .p ((eL (eL eI 1 0) 1 []) n)), (7, none, vbool true), (8, none, vstr (patS (l.take 24))), (9, none, vstr (patS (m.take 24)))]) (H' := []) [] [(1, .p ((eL eI 1 0) (l.take 24))), (2, vstr (patS (l.take 24))), (4, .p ((eL eI 1 0) (m.take 24))), (5, vstr (patS (m.take 24)))] [2, 7, 8, 9] (by kernel_rfl) ?_ ?_
  · refine al ?_ (al ?_ (al ?_ (al ?_ (trivial))))
    · exact cut_ok _ -- r2.0
    · exact pattern_ok _ (by first | omega | (intro hg; simp at hg; omega) | (simp; done) | (simp_all; done) | (simp_all; omega) | grind) -- r2.1
    · exact cut_ok _ -- r2.2
    · exact pattern_ok _ (by first | omega | (intro hg; simp at hg; omega) | (simp; done) | (simp_all; done) | (simp_all; omega) | grind) -- r2.3
  refine tr_then ?_
  refine tr_seq ?_
  refine tr_r (vc := [Pure Try.prog 11 [.s (patS (l.take 24))] (.tup [.p (eLang ((langS (patS (l.take 24))).1)), vint .i64 ((langS (patS (l.take 24))).2)]), (.p (eLang ((langS (patS (l.take 24))).1)) : D) = .p (eLang (unA l))]) (E' := [(2, none, .p ((eL (eL eI 1 0) 1 []) n)), (7, none, vbool true), (8, none, vstr (patS (l.take 24))), (9, none, vstr (patS (m.take 24))), (10, none, .ref 0 []), (11, none, vint .i64 ((langS (patS (l.take 24))).2))]) (H' := [.box (.p (eLang (unA l)))]) [(3, .p (eLang (unA l)))] [(1, .tup [.p (eLang ((langS (patS (l.take 24))).1)), vint .i64 ((langS (patS (l.take 24))).2)])] [2, 7, 8, 9, 10, 11] (by kernel_rfl) ?_ ?_
  · refine al ?_ (al ?_ (trivial))
    · exact Parse_ok _ (by first | omega | (intro hg; simp at hg; omega) | (simp; done) | (simp_all; done) | (simp_all; omega) | grind) -- r3.0
    · rfl -- r3.1
  refine tr_then ?_
  refine tr_seq ?_
  refine tr_r (vc := [Pure Try.prog 11 [.s (patS (m.take 24))] (.tup [.p (eLang ((langS (patS (m.take 24))).1)), vint .i64 ((langS (patS (m.take 24))).2)]), (.p (eLang ((langS (patS (m.take 24))).1)) : D) = .p (eLang (unA m))]) (E' := [(2, none, .p ((eL (eL eI 1 0) 1 []) n)), (7, none, vbool true), (8, none, vstr (patS (l.take 24))), (9, none, vstr (patS (m.take 24))), (10, none, .ref 0 []), (11, none, vint .i64 ((langS (patS (l.take 24))).2)), (12, none, .ref 1 []), (13, none, vint .i64 ((langS (patS (m.take 24))).2))]) (H' := [.box (.p (eLang (unA l))), .box (.p (eLang (unA m)))]) [(3, .p (eLang (unA m)))] [(1, .tup [.p (eLang ((langS (patS (m.take 24))).1)), vint .i64 ((langS (patS (m.take 24))).2)])] [2, 7, 8, 9, 10, 11, 12, 13] (by kernel_rfl) ?_ ?_
  · refine al ?_ (al ?_ (trivial))
    · exact Parse_ok _ (by first | omega | (intro hg; simp at hg; omega) | (simp; done) | (simp_all; done) | (simp_all; omega) | grind) -- r4.0
    · rfl -- r4.1
  refine tr_then ?_
  refine tr_seq ?_
  refine tr_r (vc := [(((patS (l.take 24)).length + ([124] : List UInt8).length : Nat) : Int) ≤ 9223372036854775807, ((((patS (l.take 24)) ++ ([124] : List UInt8)).length + (patS (m.take 24)).length : Nat) : Int) ≤ 9223372036854775807, Pure Try.prog 11 [.s (((patS (l.take 24)) ++ ([124] : List UInt8)) ++ (patS (m.take 24)))] (.tup [.p (eLang ((langS (((patS (l.take 24)) ++ ([124] : List UInt8)) ++ (patS (m.take 24)))).1)), vint .i64 ((langS (((patS (l.take 24)) ++ ([124] : List UInt8)) ++ (patS (m.take 24)))).2)]), (.p (eLang ((langS (((patS (l.take 24)) ++ ([124] : List UInt8)) ++ (patS (m.take 24)))).1)) : D) = .p (eLang (unC l m))]) (E' := [(2, none, .p ((eL (eL eI 1 0) 1 []) n)), (7, none, vbool true), (10, none, .ref 0 []), (11, none, vint .i64 ((langS (patS (l.take 24))).2)), (12, none, .ref 1 []), (13, none, vint .i64 ((langS (patS (m.take 24))).2)), (14, none, .ref 2 []), (15, none, vint .i64 ((langS (((patS (l.take 24)) ++ ([124] : List UInt8)) ++ (patS (m.take 24)))).2))]) (H' := [.box (.p (eLang (unA l))), .box (.p (eLang (unA m))), .box (.p (eLang (unC l m)))]) [(6, .p (eLang (unC l m)))] [(4, .tup [.p (eLang ((langS (((patS (l.take 24)) ++ ([124] : List UInt8)) ++ (patS (m.take 24)))).1)), vint .i64 ((langS (((patS (l.take 24)) ++ ([124] : List UInt8)) ++ (patS (m.take 24)))).2)])] [2, 7, 10, 11, 12, 13, 14, 15] (by kernel_rfl) ?_ ?_
  · refine al ?_ (al ?_ (al ?_ (al ?_ (trivial))))
    · first | omega | (intro hg; simp at hg; omega) | (simp; done) | (simp_all; done) | (simp_all; omega) | grind -- r5.0
    · first | omega | (intro hg; simp at hg; omega) | (simp; done) | (simp_all; done) | (simp_all; omega) | grind -- r5.1
    · exact Parse_ok _ (by first | omega | (intro hg; simp at hg; omega) | (simp; done) | (simp_all; done) | (simp_all; omega) | grind) -- r5.2
    · rfl -- r5.3
  refine tr_then ?_
  refine tr_seq ?_
  refine tr_seq ?_
  refine tr_r (vc := [(!(((langS (patS (l.take 24))).2) != 0)) = true → (!(((langS (patS (l.take 24))).2) != 0)) = true, (!(((langS (patS (l.take 24))).2) != 0)) = true → (!(((langS (patS (l.take 24))).2) != 0)) = true, (!((((langS (patS (l.take 24))).2) != 0) || (((langS (patS (m.take 24))).2) != 0))) = true → (!((((langS (patS (l.take 24))).2) != 0) || (((langS (patS (m.take 24))).2) != 0))) = true, (!((((langS (patS (l.take 24))).2) != 0) || (((langS (patS (m.take 24))).2) != 0))) = true → (!((((langS (patS (l.take 24))).2) != 0) || (((langS (patS (m.take 24))).2) != 0))) = true]) (E' := [(2, none, .p ((eL (eL eI 1 0) 1 []) n)), (7, none, vbool true), (10, none, .ref 0 []), (12, none, .ref 1 []), (14, none, .ref 2 []), (15, none, vint .i64 ((langS (((patS (l.take 24)) ++ ([124] : List UInt8)) ++ (patS (m.take 24)))).2)), (54, none, vbool (((((langS (patS (l.take 24))).2) != 0) || (((langS (patS (m.take 24))).2) != 0)) || (((langS (((patS (l.take 24)) ++ ([124] : List UInt8)) ++ (patS (m.take 24)))).2) != 0)))]) (H' := [.box (.p (eLang (unA l))), .box (.p (eLang (unA m))), .box (.p (eLang (unC l m)))]) [] [] [2, 7, 10, 12, 14, 15, 54] (by kernel_rfl) ?_ ?_
  · refine al ?_ (al ?_ (al ?_ (al ?_ (trivial))))
    · exact id -- r6.0
    · exact id -- r6.1
    · exact id -- r6.2
    · exact id -- r6.3
  refine tr_then ?_
  refine tr_condP (((((langS (patS (l.take 24))).2) != 0) || (((langS (patS (m.take 24))).2) != 0)) || (((langS (((patS (l.take 24)) ++ ([124] : List UInt8)) ++ (patS (m.take 24)))).2) != 0)) (((((langS (patS (l.take 24))).2) ≠ 0) ∨ (((langS (patS (m.take 24))).2) ≠ 0)) ∨ (((langS (((patS (l.take 24)) ++ ([124] : List UInt8)) ++ (patS (m.take 24)))).2) ≠ 0)) (by simp) (by kernel_rfl) (fun hc1 => ?_) (fun hc1 => ?_)
  · skip
    refine tr_seq ?_
    refine tr_r (vc := [true = true → true = true, true = true → true = true, (true && (!(((langS (((patS (l.take 24)) ++ ([124] : List UInt8)) ++ (patS (m.take 24)))).2) == 2))) = true → (true && (!(((langS (((patS (l.take 24)) ++ ([124] : List UInt8)) ++ (patS (m.take 24)))).2) == 2))) = true, true = true → (true = true → true = true), (true && (!(((langS (((patS (l.take 24)) ++ ([124] : List UInt8)) ++ (patS (m.take 24)))).2) == 2))) = true → (true && (!(((langS (((patS (l.take 24)) ++ ([124] : List UInt8)) ++ (patS (m.take 24)))).2) == 2))) = true, true = true → true = true]) (E' := [(6, none, vbool (true && ((((langS (((patS (l.take 24)) ++ ([124] : List UInt8)) ++ (patS (m.take 24)))).2) == 2) || (((langS (((patS (l.take 24)) ++ ([124] : List UInt8)) ++ (patS (m.take 24)))).2) == 0))))]) (H' := [.box (.p (eLang (unA l))), .box (.p (eLang (unA m))), .box (.p (eLang (unC l m)))]) [] [] [6] (by kernel_rfl) ?_ ?_
    · refine al ?_ (al ?_ (al ?_ (al ?_ (al ?_ (al ?_ (trivial))))))
      · exact id -- r7.0
      · exact id -- r7.1
      · exact id -- r7.2
      · intro _; exact id -- r7.3
      · exact id -- r7.4
      · exact id -- r7.5
    refine tr_then ?_
    refine tr_pre (E' := [(6, none, vbool (true && ((((langS (((patS (l.take 24)) ++ ([124] : List UInt8)) ++ (patS (m.take 24)))).2) == 2) || (((langS (((patS (l.take 24)) ++ ([124] : List UInt8)) ++ (patS (m.take 24)))).2) == 0))))]) (H' := []) (fun A_ W_ hS => sl_weak (vc := []) [] [6] (by kernel_rfl) trivial hS) ?_
    refine tr_pre (E' := (6, none, vbool true) :: [(6, none, vbool (true && ((((langS (((patS (l.take 24)) ++ ([124] : List UInt8)) ++ (patS (m.take 24)))).2) == 2) || (((langS (((patS (l.take 24)) ++ ([124] : List UInt8)) ++ (patS (m.take 24)))).2) == 0))))]) (H' := []) (fun A_ W_ hS => sl_set_imp (d := vbool (true && ((((langS (((patS (l.take 24)) ++ ([124] : List UInt8)) ++ (patS (m.take 24)))).2) == 2) || (((langS (((patS (l.take 24)) ++ ([124] : List UInt8)) ++ (patS (m.take 24)))).2) == 0)))) 6 (vbool true) (by kernel_rfl) ?_ hS) ?_
    · refine imp_eq (congrArg (fun x => D.p (eB x)) (a₁ := (true && ((((langS (((patS (l.take 24)) ++ ([124] : List UInt8)) ++ (patS (m.take 24)))).2) == 2) || (((langS (((patS (l.take 24)) ++ ([124] : List UInt8)) ++ (patS (m.take 24)))).2) == 0)))) (a₂ := true) ?_) -- ret1.0
      first | rfl | (simp; done) | omega | (simp_all; done) | grind
    refine tr_pre (E' := [(6, none, vbool true)]) (H' := []) (fun A_ W_ hS => sl_proj (ts := [6]) (by kernel_rfl) hS) ?_
    exact tr_return' (vc := []) (ds := [vbool true]) (by kernel_rfl) trivial (by kernel_rfl) (fun _ _ h => h)
  · skip
    refine tr_skip ?_
    refine tr_then ?_
    refine tr_seq ?_
    refine tr_dx (vc := [Pure Try.prog 14 [eLang (unA l), .v (.int .i64 10)] (.p ((eL eS 1 []) (firstS (unA l) 10))), (1 + ((firstS (unA l) 10).length)) * 16 ≤ 140737488355328, Pure Try.prog 14 [eLang (unA m), .v (.int .i64 10)] (.p ((eL eS 1 []) (firstS (unA m) 10))), ((1 + (firstS (unA l) 10).length) + ((firstS (unA m) 10).length)) * 16 ≤ 140737488355328]) (E' := [(2, none, .p ((eL (eL eI 1 0) 1 []) n)), (7, none, vbool true), (10, none, .ref 0 []), (12, none, .ref 1 []), (14, none, .ref 2 []), (16, none, .own 5)]) (H' := [.box (.p (eLang (unA l))), .box (.p (eLang (unA m))), .box (.p (eLang (unC l m))), .dead, .dead, .arr 9 1 ((1 + (firstS (unA l) 10).length) + (firstS (unA m) 10).length) (appF (appF (fun j => ([vstr ([] : List UInt8)] : List D).getD j default) 1 (fun j => .p (eS ((firstS (unA l) 10).getD j [])))) (1 + (firstS (unA l) 10).length) (fun j => .p (eS ((firstS (unA m) 10).getD j []))))]) 6 [(0, 3, [3], [3]), (1, 6, [], [0]), (3, 4, [3, 4], [3, 4]), (4, 6, [], [1]), (6, 5, [4, 5], [4, 5])] [] [(2, .p ((eL eS 1 []) (firstS (unA l) 10))), (5, .p ((eL eS 1 []) (firstS (unA m) 10)))] [2, 7, 10, 12, 14, 16] (by kernel_rfl) (by kernel_rfl) (by kernel_rfl) (by kernel_rfl) ?_ ?_
    · refine al ?_ (al ?_ (al ?_ (al ?_ (trivial))))
      · exact First_ok _ _ -- r8.0
      · first | omega | (intro hg; simp at hg; omega) | (simp; done) | (simp_all; done) | (simp_all; omega) | grind -- r8.1
      · exact First_ok _ _ -- r8.2
      · first | omega | (intro hg; simp at hg; omega) | (simp; done) | (simp_all; done) | (simp_all; omega) | grind -- r8.3
    refine nm_pre (E' := [(2, none, .p ((eL (eL eI 1 0) 1 []) n)), (7, none, vbool true), (10, none, .ref 0 []), (12, none, .ref 1 []), (14, none, .ref 2 []), (16, none, .own 5)]) (H' := [.box (.p (eLang (unA l))), .box (.p (eLang (unA m))), .box (.p (eLang (unC l m))), .dead, .dead, oL 9 eS 1 [] ((([([] : List UInt8)]) ++ (firstS (unA l) 10)) ++ (firstS (unA m) 10))]) (fun A_ W_ hS => sl_arr (n := ((1 + (firstS (unA l) 10).length) + (firstS (unA m) 10).length)) (n' := ((([([] : List UInt8)]) ++ (firstS (unA l) 10)) ++ (firstS (unA m) 10)).length) (f := appF (appF (fun j => ([vstr ([] : List UInt8)] : List D).getD j default) 1 (fun j => .p (eS ((firstS (unA l) 10).getD j [])))) (1 + (firstS (unA l) 10).length) (fun j => .p (eS ((firstS (unA m) 10).getD j [])))) 5 (fun i => .p (eS (((([([] : List UInt8)]) ++ (firstS (unA l) 10)) ++ (firstS (unA m) 10)).getD i []))) (by kernel_rfl) (by first | rfl | (simp; done) | (simp; omega)) (by exact app_of (by first | rfl | (simp; done) | (simp; omega)) (app_of (by first | rfl | (simp; done) | (simp; omega)) (lit_getD (e := eS) (d := []) (l := [([] : List UInt8)])))) hS) ?_
    refine tr_then ?_
    refine tr_seq ?_
    refine tr_seq ?_
    refine tr_r (vc := []) (E' := [(2, none, .p ((eL (eL eI 1 0) 1 []) n)), (7, none, vbool true), (10, none, .ref 0 []), (12, none, .ref 1 []), (14, none, .ref 2 []), (16, none, .own 5), (17, none, vint .i64 0)]) (H' := [.box (.p (eLang (unA l))), .box (.p (eLang (unA m))), .box (.p (eLang (unC l m))), .dead, .dead, oL 9 eS 1 [] ((([([] : List UInt8)]) ++ (firstS (unA l) 10)) ++ (firstS (unA m) 10))]) [] [] [2, 7, 10, 12, 14, 16, 17] (by kernel_rfl) ?_ ?_
    · exact trivial
    refine tr_then ?_
    refine tr_block ?_
    refine tr_loop (α := Nat × (List (List UInt8))) (fun z : Nat × (List (List UInt8)) => (fun (k : Nat) (W : List (List UInt8)) => [(2, none, .p ((eL (eL eI 1 0) 1 []) n)), (7, none, vbool true), (10, none, .ref 0 []), (12, none, .ref 1 []), (14, none, .ref 2 []), (16, none, .own 5), (17, none, vint .i64 ((k : Nat) : Int))]) z.1 z.2) (fun z : Nat × (List (List UInt8)) => (fun (k : Nat) (W : List (List UInt8)) => [.box (.p (eLang (unA l))), .box (.p (eLang (unA m))), .box (.p (eLang (unC l m))), .dead, .dead, oL 9 eS 1 [] W]) z.1 z.2) (fun z : Nat × (List (List UInt8)) => (fun (k : Nat) (W : List (List UInt8)) => (k ≤ n.length) ∧ (k ≤ 6) ∧ (W.length ≤ 21 + k) ∧ (∀ x ∈ W, x.length ≤ 12)) z.1 z.2) (fun z : Nat × (List (List UInt8)) => (fun (k : Nat) (W : List (List UInt8)) => n.length - k) z.1 z.2) (0, ((([([] : List UInt8)]) ++ (firstS (unA l) 10)) ++ (firstS (unA m) 10))) ?_ ?_ ?_
    · show (0 ≤ n.length) ∧ (0 ≤ 6) ∧ (((([([] : List UInt8)]) ++ (firstS (unA l) 10)) ++ (firstS (unA m) 10)).length ≤ 21 + 0) ∧ (∀ x ∈ ((([([] : List UInt8)]) ++ (firstS (unA l) 10)) ++ (firstS (unA m) 10)), x.length ≤ 12)
      refine ⟨?_, ?_, ?_, ?_⟩
      · first | omega | (intro hg; simp at hg; omega) | (simp; done) | (simp_all; done) | (simp_all; omega) | grind -- l0.i.0
      · first | omega | (intro hg; simp at hg; omega) | (simp; done) | (simp_all; done) | (simp_all; omega) | grind -- l0.i.1
      · first | omega | (intro hg; simp at hg; omega) | (simp; done) | (simp_all; done) | (simp_all; omega) | grind -- l0.i.2
      · exact short_app (short_app short_nil firstS_short) firstS_short -- l0.i.3
    · intro A_ W_ hS
      replace hS := sl_set (d := vint .i64 0) 17 (vint .i64 ((0 : Nat) : Int)) (by kernel_rfl) (eqD_int (by first | omega | (intro hg; simp at hg; omega) | (simp; done) | (simp_all; done) | (simp_all; omega) | grind)) hS -- l0.s17
      exact sl_weak (vc := [∀ i, i < ((([([] : List UInt8)]) ++ (firstS (unA l) 10)) ++ (firstS (unA m) 10)).length → D.p (eS (((([([] : List UInt8)]) ++ (firstS (unA l) 10)) ++ (firstS (unA m) 10)).getD i [])) = .p (eS (((([([] : List UInt8)]) ++ (firstS (unA l) 10)) ++ (firstS (unA m) 10)).getD i []))]) [0, 1, 2, 3, 4, 5] [2, 7, 10, 12, 14, 16, 17] (by kernel_rfl) (al (fun _ _ => rfl) trivial) hS
    · intro z hz
      obtain ⟨k, W⟩ := z
      have hz : (k ≤ n.length) ∧ (k ≤ 6) ∧ (W.length ≤ 21 + k) ∧ (∀ x ∈ W, x.length ≤ 12) := hz
      obtain ⟨hi0_0, hi0_1, hi0_2, hi0_3⟩ := hz
      refine tr_seq ?_
      refine tr_seq ?_
      refine tr_r (vc := [(decide (((k : Nat) : Int) < ((n.length : Nat) : Int))) = true → (decide (((k : Nat) : Int) < ((n.length : Nat) : Int))) = true, (decide (((k : Nat) : Int) < ((n.length : Nat) : Int))) = true → (decide (((k : Nat) : Int) < ((n.length : Nat) : Int))) = true]) (E' := [(2, none, .p ((eL (eL eI 1 0) 1 []) n)), (7, none, vbool true), (10, none, .ref 0 []), (12, none, .ref 1 []), (14, none, .ref 2 []), (16, none, .own 5), (17, none, vint .i64 ((k : Nat) : Int)), (78, none, vbool ((decide (((k : Nat) : Int) < ((n.length : Nat) : Int))) && (decide (((k : Nat) : Int) < 6))))]) (H' := [.box (.p (eLang (unA l))), .box (.p (eLang (unA m))), .box (.p (eLang (unC l m))), .dead, .dead, oL 9 eS 1 [] W]) [] [] [2, 7, 10, 12, 14, 16, 17, 78] (by kernel_rfl) ?_ ?_
      · refine al ?_ (al ?_ (trivial))
        · exact id -- r10.0
        · exact id -- r10.1
      refine tr_then ?_
      refine tr_condP ((decide (((k : Nat) : Int) < ((n.length : Nat) : Int))) && (decide (((k : Nat) : Int) < 6))) ((((k : Nat) : Int) < ((n.length : Nat) : Int)) ∧ (((k : Nat) : Int) < 6)) (by simp) (by kernel_rfl) (fun hc2 => ?_) (fun hc2 => ?_)
      · skip
        refine tr_skip ?_
        refine tr_then ?_
        refine tr_seq ?_
        refine tr_block ?_
        refine tr_r (vc := [(0 : Int) ≤ ((k : Nat) : Int), ((k : Nat) : Int) < (n.length : Int), Pure Try.prog 15 [(eL eI 1 0) (n.getD k [])] (vstr (word (n.getD k []))), ∀ j, j < 1 → ([.s (word (n.getD k []))] : List PV).getD j default = (fun i => eS (([(word (n.getD k []))]).getD i [])) j, (W.length + (([(word (n.getD k []))]).length)) * 16 ≤ 140737488355328]) (E' := [(2, none, .p ((eL (eL eI 1 0) 1 []) n)), (7, none, vbool true), (10, none, .ref 0 []), (12, none, .ref 1 []), (14, none, .ref 2 []), (16, none, .own 6), (17, none, vint .i64 ((k : Nat) : Int))]) (H' := [.box (.p (eLang (unA l))), .box (.p (eLang (unA m))), .box (.p (eLang (unC l m))), .dead, .dead, .dead, .arr 9 1 (W.length + ([(word (n.getD k []))]).length) (appF (fun i => .p (eS (W.getD i []))) W.length (fun j => .p (eS (([(word (n.getD k []))]).getD j []))))]) [] [(5, vstr (word (n.getD k []))), (6, .p ((eL eS 1 []) ([(word (n.getD k []))])))] [2, 7, 10, 12, 14, 16, 17] (by kernel_rfl) ?_ ?_
        · refine al ?_ (al ?_ (al ?_ (al ?_ (al ?_ (trivial)))))
          · first | omega | (intro hg; simp at hg; omega) | (simp; done) | (simp_all; done) | (simp_all; omega) | grind -- r12.0
          · first | omega | (intro hg; simp at hg; omega) | (simp; done) | (simp_all; done) | (simp_all; omega) | grind -- r12.1
          · exact word_ok _ (by first | omega | (intro hg; simp at hg; omega) | (simp; done) | (simp_all; done) | (simp_all; omega) | grind) -- r12.2
          · exact lit_pv (e := eS) (d := []) (l := [(word (n.getD k []))]) -- r12.3
          · first | omega | (intro hg; simp at hg; omega) | (simp; done) | (simp_all; done) | (simp_all; omega) | grind -- r12.4
        refine nm_pre (E' := [(2, none, .p ((eL (eL eI 1 0) 1 []) n)), (7, none, vbool true), (10, none, .ref 0 []), (12, none, .ref 1 []), (14, none, .ref 2 []), (16, none, .own 6), (17, none, vint .i64 ((k : Nat) : Int))]) (H' := [.box (.p (eLang (unA l))), .box (.p (eLang (unA m))), .box (.p (eLang (unC l m))), .dead, .dead, .dead, oL 9 eS 1 [] (W ++ ([(word (n.getD k []))]))]) (fun A_ W_ hS => sl_arr (n := (W.length + ([(word (n.getD k []))]).length)) (n' := (W ++ ([(word (n.getD k []))])).length) (f := appF (fun i => .p (eS (W.getD i []))) W.length (fun j => .p (eS (([(word (n.getD k []))]).getD j [])))) 6 (fun i => .p (eS ((W ++ ([(word (n.getD k []))])).getD i []))) (by kernel_rfl) (by simp) (by first | exact appN | exact nilN | exact app0 | exact nilV _) hS) ?_
        refine in_n ?_
        refine tr_then ?_
        refine tr_r (vc := [(IntKind.wrap .i64 (((k : Nat) : Int) + 1)) = (((k + 1) : Nat) : Int)]) (E' := [(2, none, .p ((eL (eL eI 1 0) 1 []) n)), (7, none, vbool true), (10, none, .ref 0 []), (12, none, .ref 1 []), (14, none, .ref 2 []), (16, none, .own 6), (17, none, vint .i64 (((k + 1) : Nat) : Int))]) (H' := [.box (.p (eLang (unA l))), .box (.p (eLang (unA m))), .box (.p (eLang (unC l m))), .dead, .dead, .dead, oL 9 eS 1 [] (W ++ ([(word (n.getD k []))]))]) [(1, vint .i64 (((k + 1) : Nat) : Int))] [] [2, 7, 10, 12, 14, 16, 17] (by kernel_rfl) ?_ ?_
        · refine al ?_ (trivial)
          · exact wr64 (by omega) (by omega) (by omega) -- r11.0
        refine lp_end ((k + 1), (W ++ ([(word (n.getD k []))]))) ?_ ?_ ?_
        · show ((k + 1) ≤ n.length) ∧ ((k + 1) ≤ 6) ∧ ((W ++ ([(word (n.getD k []))])).length ≤ 21 + (k + 1)) ∧ (∀ x ∈ (W ++ ([(word (n.getD k []))])), x.length ≤ 12)
          refine ⟨?_, ?_, ?_, ?_⟩
          · first | omega | (intro hg; simp at hg; omega) | (simp; done) | (simp_all; done) | (simp_all; omega) | grind -- l0.n.0
          · first | omega | (intro hg; simp at hg; omega) | (simp; done) | (simp_all; done) | (simp_all; omega) | grind -- l0.n.1
          · first | omega | (intro hg; simp at hg; omega) | (simp; done) | (simp_all; done) | (simp_all; omega) | grind -- l0.n.2
          · exact short_app hi0_3 (short_word _) -- l0.n.3
        · show n.length - (k + 1) < n.length - k
          omega
        · intro A_ W_ hS
          exact sl_weak (vc := [∀ i, i < (W ++ ([(word (n.getD k []))])).length → D.p (eS ((W ++ ([(word (n.getD k []))])).getD i [])) = .p (eS ((W ++ ([(word (n.getD k []))])).getD i []))]) [0, 1, 2, 3, 4, 6] [2, 7, 10, 12, 14, 16, 17] (by kernel_rfl) (al (fun _ _ => rfl) trivial) hS
      · skip
        refine tr_exit ?_
        refine th_e ?_
        refine th_e ?_
        refine in_hit ?_
        refine tr_then ?_
        refine tr_seq ?_
        refine tr_seq ?_
        refine tr_r (vc := [Pure Try.prog 14 [eLang (unC l m), .v (.int .i64 10)] (.p ((eL eS 1 []) (firstS (unC l m) 10))), (W.length + ((firstS (unC l m) 10).length)) * 16 ≤ 140737488355328]) (E' := [(7, none, vbool true), (10, none, .ref 0 []), (12, none, .ref 1 []), (14, none, .ref 2 []), (92, none, .own 6), (93, none, vint .i64 (((W.length + (firstS (unC l m) 10).length) : Nat) : Int)), (94, none, vint .i64 0)]) (H' := [.box (.p (eLang (unA l))), .box (.p (eLang (unA m))), .box (.p (eLang (unC l m))), .dead, .dead, .dead, .arr 9 1 (W.length + (firstS (unC l m) 10).length) (appF (fun i => .p (eS (W.getD i []))) W.length (fun j => .p (eS ((firstS (unC l m) 10).getD j []))))]) [] [(2, .p ((eL eS 1 []) (firstS (unC l m) 10)))] [7, 10, 12, 14, 92, 93, 94] (by kernel_rfl) ?_ ?_
        · refine al ?_ (al ?_ (trivial))
          · exact First_ok _ _ -- r13.0
          · first | omega | (intro hg; simp at hg; omega) | (simp; done) | (simp_all; done) | (simp_all; omega) | grind -- r13.1
        refine nm_pre (E' := [(7, none, vbool true), (10, none, .ref 0 []), (12, none, .ref 1 []), (14, none, .ref 2 []), (92, none, .own 6), (93, none, vint .i64 (((W.length + (firstS (unC l m) 10).length) : Nat) : Int)), (94, none, vint .i64 0)]) (H' := [.box (.p (eLang (unA l))), .box (.p (eLang (unA m))), .box (.p (eLang (unC l m))), .dead, .dead, .dead, oL 9 eS 1 [] (W ++ (firstS (unC l m) 10))]) (fun A_ W_ hS => sl_arr (n := (W.length + (firstS (unC l m) 10).length)) (n' := (W ++ (firstS (unC l m) 10)).length) (f := appF (fun i => .p (eS (W.getD i []))) W.length (fun j => .p (eS ((firstS (unC l m) 10).getD j [])))) 6 (fun i => .p (eS ((W ++ (firstS (unC l m) 10)).getD i []))) (by kernel_rfl) (by simp) (by first | exact appN | exact nilN | exact app0 | exact nilV _) hS) ?_
        refine tr_then ?_
        refine tr_block ?_
        refine tr_loop (α := Nat) (fun z : Nat => (fun (q : Nat) => [(7, none, vbool true), (10, none, .ref 0 []), (12, none, .ref 1 []), (14, none, .ref 2 []), (92, none, .own 6), (93, none, vint .i64 (((W.length + (firstS (unC l m) 10).length) : Nat) : Int)), (94, none, vint .i64 ((q : Nat) : Int))]) z) (fun z : Nat => (fun (q : Nat) => [.box (.p (eLang (unA l))), .box (.p (eLang (unA m))), .box (.p (eLang (unC l m))), .dead, .dead, .dead, oL 9 eS 1 [] (W ++ (firstS (unC l m) 10))]) z) (fun z : Nat => (fun (q : Nat) => (q ≤ (W ++ firstS (unC l m) 10).length)) z) (fun z : Nat => (fun (q : Nat) => (W ++ firstS (unC l m) 10).length - q) z) 0 ?_ ?_ ?_
        · show (0 ≤ (W ++ firstS (unC l m) 10).length)
          · first | omega | (intro hg; simp at hg; omega) | (simp; done) | (simp_all; done) | (simp_all; omega) | grind -- l1.i.0
        · intro A_ W_ hS
          replace hS := sl_set (d := vint .i64 0) 94 (vint .i64 ((0 : Nat) : Int)) (by kernel_rfl) (eqD_int (by first | omega | (intro hg; simp at hg; omega) | (simp; done) | (simp_all; done) | (simp_all; omega) | grind)) hS -- l1.s94
          exact sl_weak (vc := [∀ i, i < (W ++ (firstS (unC l m) 10)).length → D.p (eS ((W ++ (firstS (unC l m) 10)).getD i [])) = .p (eS ((W ++ (firstS (unC l m) 10)).getD i []))]) [0, 1, 2, 3, 4, 5, 6] [7, 10, 12, 14, 92, 93, 94] (by kernel_rfl) (al (fun _ _ => rfl) trivial) hS
        · intro z hz
          revert z; intro q hz
          have hz : (q ≤ (W ++ firstS (unC l m) 10).length) := hz
          have hi1_0 := hz
          have hsh := short_get (W := W ++ firstS (unC l m) 10) (q := q) (short_app hi0_3 firstS_short)
          refine tr_seq ?_
          refine tr_r (vc := []) (E' := [(7, none, vbool true), (10, none, .ref 0 []), (12, none, .ref 1 []), (14, none, .ref 2 []), (92, none, .own 6), (93, none, vint .i64 (((W.length + (firstS (unC l m) 10).length) : Nat) : Int)), (94, none, vint .i64 ((q : Nat) : Int)), (95, none, vbool (decide (((q : Nat) : Int) < (((W.length + (firstS (unC l m) 10).length) : Nat) : Int))))]) (H' := [.box (.p (eLang (unA l))), .box (.p (eLang (unA m))), .box (.p (eLang (unC l m))), .dead, .dead, .dead, oL 9 eS 1 [] (W ++ (firstS (unC l m) 10))]) [] [] [7, 10, 12, 14, 92, 93, 94, 95] (by kernel_rfl) ?_ ?_
          · exact trivial
          refine tr_then ?_
          refine tr_seq ?_
          refine tr_condP (decide (((q : Nat) : Int) < (((W.length + (firstS (unC l m) 10).length) : Nat) : Int))) (((q : Nat) : Int) < (((W.length + (firstS (unC l m) 10).length) : Nat) : Int)) (by simp) (by kernel_rfl) (fun hc3 => ?_) (fun hc3 => ?_)
          · skip
            refine tr_skip ?_
            refine tr_then ?_
            refine tr_seq ?_
            refine tr_block ?_
            refine tr_seq ?_
            refine tr_r (vc := [(0 : Int) ≤ ((q : Nat) : Int), ((q : Nat) : Int) < ((W ++ (firstS (unC l m) 10)).length : Int), q < (W ++ (firstS (unC l m) 10)).length]) (E' := [(7, none, vbool true), (10, none, .ref 0 []), (12, none, .ref 1 []), (14, none, .ref 2 []), (19, none, vstr ((W ++ (firstS (unC l m) 10)).getD q [])), (92, none, .own 6), (93, none, vint .i64 (((W.length + (firstS (unC l m) 10).length) : Nat) : Int)), (94, none, vint .i64 ((q : Nat) : Int))]) (H' := [.box (.p (eLang (unA l))), .box (.p (eLang (unA m))), .box (.p (eLang (unC l m))), .dead, .dead, .dead, oL 9 eS 1 [] (W ++ (firstS (unC l m) 10))]) [] [] [7, 10, 12, 14, 19, 92, 93, 94] (by kernel_rfl) ?_ ?_
            · refine al ?_ (al ?_ (al ?_ (trivial)))
              · first | omega | (intro hg; simp at hg; omega) | (simp; done) | (simp_all; done) | (simp_all; omega) | grind -- r15.0
              · first | omega | (intro hg; simp at hg; omega) | (simp; done) | (simp_all; done) | (simp_all; omega) | grind -- r15.1
              · first | omega | (intro hg; simp at hg; omega) | (simp; done) | (simp_all; done) | (simp_all; omega) | grind -- r15.2
            refine tr_then ?_
            refine tr_seq ?_
            refine tr_d (vc := [Pure Try.prog 16 [eLang (unC l m), .s ((W ++ (firstS (unC l m) 10)).getD q [])] (vbool (has (unC l m) ((W ++ (firstS (unC l m) 10)).getD q []))), Pure Try.prog 16 [eLang (unA l), .s ((W ++ (firstS (unC l m) 10)).getD q [])] (vbool (has (unA l) ((W ++ (firstS (unC l m) 10)).getD q []))), (!(has (unA l) ((W ++ (firstS (unC l m) 10)).getD q []))) = true → (!(has (unA l) ((W ++ (firstS (unC l m) 10)).getD q []))) = true, (!(has (unA l) ((W ++ (firstS (unC l m) 10)).getD q []))) = true → (!(has (unA l) ((W ++ (firstS (unC l m) 10)).getD q []))) = true, (!(has (unA l) ((W ++ (firstS (unC l m) 10)).getD q []))) = true → (Pure Try.prog 16 [eLang (unA m), .s ((W ++ (firstS (unC l m) 10)).getD q [])] (vbool (has (unA m) ((W ++ (firstS (unC l m) 10)).getD q [])))), (!(has (unA l) ((W ++ (firstS (unC l m) 10)).getD q []))) = true → (!(has (unA l) ((W ++ (firstS (unC l m) 10)).getD q []))) = true]) (E' := [(7, none, vbool true), (10, none, .ref 0 []), (12, none, .ref 1 []), (14, none, .ref 2 []), (92, none, .own 6), (93, none, vint .i64 (((W.length + (firstS (unC l m) 10).length) : Nat) : Int)), (94, none, vint .i64 ((q : Nat) : Int)), (109, none, vbool (!((has (unC l m) ((W ++ (firstS (unC l m) 10)).getD q [])) == ((has (unA l) ((W ++ (firstS (unC l m) 10)).getD q [])) || (has (unA m) ((W ++ (firstS (unC l m) 10)).getD q []))))))]) [] [(2, vbool (has (unC l m) ((W ++ (firstS (unC l m) 10)).getD q []))), (5, vbool (has (unA l) ((W ++ (firstS (unC l m) 10)).getD q []))), (9, vbool (has (unA m) ((W ++ (firstS (unC l m) 10)).getD q [])))] [7, 10, 12, 14, 92, 93, 94, 109] (by kernel_rfl) (by kernel_rfl) (by kernel_rfl) ?_ ?_
            · refine al ?_ (al ?_ (al ?_ (al ?_ (al ?_ (al ?_ (trivial))))))
              · exact has_ok _ _ (by have := hsh; omega) -- r16.0
              · exact has_ok _ _ (by have := hsh; omega) -- r16.1
              · exact id -- r16.2
              · exact id -- r16.3
              · intro _; exact has_ok _ _ (by have := hsh; omega) -- r16.4
              · exact id -- r16.5
            refine tr_then ?_
            refine tr_condP (!((has (unC l m) ((W ++ (firstS (unC l m) 10)).getD q [])) == ((has (unA l) ((W ++ (firstS (unC l m) 10)).getD q [])) || (has (unA m) ((W ++ (firstS (unC l m) 10)).getD q []))))) (¬ (has (unC l m) ((W ++ (firstS (unC l m) 10)).getD q [])) = ((has (unA l) ((W ++ (firstS (unC l m) 10)).getD q [])) || (has (unA m) ((W ++ (firstS (unC l m) 10)).getD q [])))) (by simp) (by kernel_rfl) (fun hc4 => ?_) (fun hc4 => ?_)
            · exact absurd hc4 (fun h => h (union_has (by omega) (by omega) (by omega) _))
            · skip
              refine tr_skip ?_
              refine in_n ?_
              refine tr_then ?_
              refine tr_r (vc := [(IntKind.wrap .i64 (((q : Nat) : Int) + 1)) = (((q + 1) : Nat) : Int)]) (E' := [(7, none, vbool true), (10, none, .ref 0 []), (12, none, .ref 1 []), (14, none, .ref 2 []), (92, none, .own 6), (93, none, vint .i64 (((W.length + (firstS (unC l m) 10).length) : Nat) : Int)), (94, none, vint .i64 (((q + 1) : Nat) : Int))]) (H' := [.box (.p (eLang (unA l))), .box (.p (eLang (unA m))), .box (.p (eLang (unC l m))), .dead, .dead, .dead, oL 9 eS 1 [] (W ++ (firstS (unC l m) 10))]) [(0, vint .i64 (((q + 1) : Nat) : Int))] [] [7, 10, 12, 14, 92, 93, 94] (by kernel_rfl) ?_ ?_
              · refine al ?_ (trivial)
                · exact wr64 (by omega) (by omega) (by omega) -- r18.0
              refine lp_end (q + 1) ?_ ?_ ?_
              · show ((q + 1) ≤ (W ++ firstS (unC l m) 10).length)
                · first | omega | (intro hg; simp at hg; omega) | (simp; done) | (simp_all; done) | (simp_all; omega) | grind -- l1.n.0
              · show (W ++ firstS (unC l m) 10).length - (q + 1) < (W ++ firstS (unC l m) 10).length - q
                simp only [List.length_append] at *; omega
              · intro A_ W_ hS
                exact sl_weak (vc := [∀ i, i < (W ++ (firstS (unC l m) 10)).length → D.p (eS ((W ++ (firstS (unC l m) 10)).getD i [])) = .p (eS ((W ++ (firstS (unC l m) 10)).getD i []))]) [0, 1, 2, 3, 4, 5, 6] [7, 10, 12, 14, 92, 93, 94] (by kernel_rfl) (al (fun _ _ => rfl) trivial) hS
          · skip
            refine tr_exit ?_
            refine th_e ?_
            refine th_e ?_
            refine in_hit ?_
            refine tr_then ?_
            refine tr_seq ?_
            refine tr_r (vc := []) (E' := [(6, none, vbool true)]) (H' := [.box (.p (eLang (unA l))), .box (.p (eLang (unA m))), .box (.p (eLang (unC l m))), .dead, .dead, .dead, oL 9 eS 1 [] (W ++ (firstS (unC l m) 10))]) [] [] [6] (by kernel_rfl) ?_ ?_
            · exact trivial
            refine tr_then ?_
            refine tr_pre (E' := [(6, none, vbool true)]) (H' := []) (fun A_ W_ hS => sl_weak (vc := []) [] [6] (by kernel_rfl) trivial hS) ?_
            exact tr_return' (vc := []) (ds := [vbool true]) (by kernel_rfl) trivial (by kernel_rfl) (fun _ _ h => h)
end Go.Proofs.Ytjnjmnfacaakfaa
namespace Go.Proofs.Ytjnjmnfacaakfaa
open Go.Eng Go.ChangeShapes Go.WideShapes Go.ChangeAt Go.RowKit Go.Deep
set_option maxRecDepth 100000 in
theorem unions_contract (H : Type) (enc : TypeId × Value → H) (W : World) (base : Nat) (args : Array Value) (ds gs : List (DataW H)) (before : List MemPlace)
    (hval : ∀ (j : Nat) t v, Try.f4.params[j]? = some t → args[j]? = some v → Value.okWide Try.prog W .any base t v)
    (hW : DataW.Whole enc Try.prog Try.f4.params.toList Rows.languageUnionsSpec.vars false W args.toList ds gs before)
    (hz : (DataW.weightsEach Try.prog (Try.f4.params.toList ++ Rows.languageUnionsSpec.plain.varTypes Try.prog) (ds ++ gs)).all (· ≤ reachBytes) = true) :
    Calls Try.prog 4 args W fun e W' => ∃ v, e = .returned v ∧ Rows.languageUnionsSpec.post enc Try.prog Try.f4 false true false false W args v W' := by
  refine contract_of (tb := 4) laidOut_ ?_ rfl Try.underlying4 rfl ?_ hval hW hz ?_
  · intro t ht
    have ht' : t ∈ [22, 22, 30] := ht
    simp only [List.mem_cons, List.not_mem_nil, or_false] at ht'
    rcases ht' with rfl | rfl | rfl
    · exact readable22_
    · exact readable22_
    · exact readable30_
  · intro ds hds
    match ds, hds with
    | [_, _, _], _ => exact ⟨rfl, rfl, rfl⟩
  · intro hO
    obtain ⟨v0, d0, p0, e0, k0, t0, w0⟩ := hO 0 22 rfl
    obtain ⟨v1, d1, p1, e1, k1, t1, w1⟩ := hO 1 22 rfl
    obtain ⟨v2, d2, p2, e2, k2, t2, w2⟩ := hO 2 30 rfl
    obtain ⟨l, a0, g0⟩ := arg_ints Try.underlying22 Try.underlying3 cells3_ k0 t0
    obtain ⟨m, a1, g1⟩ := arg_ints Try.underlying22 Try.underlying3 cells3_ k1 t1
    obtain ⟨n, a2, g2⟩ := arg_rows Try.underlying30 Try.underlying22 Try.underlying3 cells22_ cells3_ k2 t2
    have z2 := weigh_sl Try.underlying30 bytes22_ g2 w2
    refine ⟨_, unions_ok l m n z2.1 (fun k hk => ?_), rfl, ?_⟩
    · obtain ⟨d', h1, h2⟩ := z2.2 k hk
      exact (weigh_sl Try.underlying22 bytes3_ h1 h2).1
    · intro j p v hp hv
      match j, hp, hv with
      | 0, hp, hv => cases hp; cases e0.symm.trans hv; exact a0
      | 1, hp, hv => cases hp; cases e1.symm.trans hv; exact a1
      | 2, hp, hv => cases hp; cases e2.symm.trans hv; exact a2
set_option maxRecDepth 100000 in
theorem unions_lifted (os : Os) (started : os.Started) (H : Type) (enc : TypeId × Value → H) :
    ReturnsInHanded {} Try.checked os 4 .any (Rows.languageUnionsSpec.pre6 enc Try.prog Try.f4 Rows.languageUnionsRow.domain false) (Rows.languageUnionsSpec.post enc Try.prog Try.f4 false true false false) := by
  refine returnsInHanded_of_change_sized (C := Try.checked) own_ started (by kernel_rfl) Try.func4
    (ChangeSpec.witness6 (enc := enc) (C := Try.checked) false ⟨#[], #[.slice none 0 0, .slice none 0 0, .slice none 0 0], []⟩ 8 (by kernel_rfl) (by kernel_rfl) (by kernel_rfl) (by kernel_rfl)) ?_
  intro W base args ds gs before hval hW _ hz _
  exact unions_contract H enc W base args ds gs before hval hW hz
theorem unionsProved : Rows.LanguageUnionsSaid :=
  OpenClaim.holds_of_wide 4 Try.f4 rfl rfl rfl rfl rfl rfl rfl ⟨rfl, rfl, rfl, rfl, rfl⟩ rfl rfl rfl rfl rfl (by kernel_rfl) Try.func4 (by kernel_rfl)
    (of_decide_eq_true (by kernel_rfl)) (by unfold Func.isWrapper; first | (rw [if_pos (by decide +kernel)]; kernel_rfl) | (rw [if_neg (by decide +kernel)]; exact ⟨rfl, rfl⟩))
    (fun os started H enc _ => unions_lifted os started H enc)
end Go.Proofs.Ytjnjmnfacaakfaa
