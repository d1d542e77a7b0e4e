/-
  LanguageAnswers: whatever the input, the call returns true, and each argument reads afterwards as it read before. No conditions. (Part 4 of 8 of its proof.)
-/
import Derived.Test.YtjnjmnfacaakfaaCA3
import Derived.Test.YtjnjmnfacaakfaaRows
import Derived.RangeFuncFrom
import Derived.RangeFuncLeaves
import Derived.TacticsInMore
import Derived.RangeFuncBox
import Derived.Lib.Walk
import Derived.RangeFuncWrites
import Derived.OwnWalkIn
import Derived.Shelf.Abstract
import Derived.LoopNIn
import Derived.LoopIn
namespace Go.Proofs.Ytjnjmnfacaakfaa
open Go.Eng
abbrev Pl := Nat → Bool
def keyS (S : Pl) : List Int := [setW S 0, setW S 1]
def idx (S : Pl) : List Pl → Nat → Option Nat
 | [], _ => none
 | T :: L, i => if keyS T = keyS S then some i else idx S L (i + 1)
def idxK (k : List Int) : List (List Int) → Nat → Option Nat
 | [], _ => none
 | j :: L, i => if j = k then some i else idxK k L (i + 1)
def mapK (K : List (List Int)) : List Int → Option PV := fun k => (idxK k K 0).map fun i => .v (.int .i64 (i : Int))
theorem idxK_app {k j : List Int} : ∀ {K : List (List Int)} {i : Nat}, idxK k K i = none ∧ idxK k (K ++ [j]) i = (if j = k then some (i + K.length) else none) ∨ idxK k K i ≠ none ∧ idxK k (K ++ [j]) i = idxK k K i
 | [], i => .inl ⟨rfl, by simp [idxK]⟩
 | a :: K, i => by
  simp only [List.cons_append, idxK]
  by_cases h : a = k
  ·rw [if_pos h, if_pos h]; exact .inr ⟨by simp, rfl⟩
  ·rw [if_neg h, if_neg h]
   rcases idxK_app (k := k) (j := j) (K := K) (i := i + 1) with ⟨h1, h2⟩ | ⟨h1, h2⟩
   ·exact .inl ⟨h1, by rw [h2, List.length_cons]; split <;> simp; omega⟩
   ·exact .inr ⟨h1, h2⟩
theorem mapK_push {K : List (List Int)} {k : List Int} (h : idxK k K 0 = none) : setMap (mapK K) k (.v (.int .i64 (K.length : Int))) = mapK (K ++ [k]) := by
 funext j
 by_cases hj : j = k
 ·subst hj
  rw [setMap_at]
  unfold mapK
  rcases idxK_app (k := j) (j := j) (K := K) (i := 0) with ⟨h1, h2⟩ | ⟨h1, h2⟩
  ·rw [h2]; simp
  ·exact absurd h h1
 ·rw [setMap_ne hj]
  unfold mapK
  rcases idxK_app (k := j) (j := k) (K := K) (i := 0) with ⟨h1, h2⟩ | ⟨h1, h2⟩
  ·rw [h2, h1, if_neg (fun e => hj e.symm)]
  ·rw [h2]
theorem idx_map {S : Pl} : ∀ {L : List Pl} {i : Nat}, idxK (keyS S) (L.map keyS) i = idx S L i
 | [], i => rfl
 | T :: L, i => by simp only [List.map_cons, idxK, idx, idx_map]
def acc (ps : List Place) (S : Pl) : Nat → Bool
 | 0 => false
 | i + 1 => acc ps S i || ((ps.getD i dPlace).fEnd && S i)
def acceptS (ps : List Place) (S : Pl) : Bool := acc ps S ps.length
def rowAt (ps : List Place) (S : Pl) (L : List Pl) : Nat → List Pl × List Int
 | 0 => (L, [])
 | c + 1 => if keyS (stepS ps S c) = [0, 0] then ((rowAt ps S L c).1, (rowAt ps S L c).2 ++ [-1]) else
  match idx (stepS ps S c) (rowAt ps S L c).1 0 with
  | some i => ((rowAt ps S L c).1, (rowAt ps S L c).2 ++ [(i : Int)])
  | none => ((rowAt ps S L c).1 ++ [stepS ps S c], (rowAt ps S L c).2 ++ [((rowAt ps S L c).1.length : Int)])
def rowL (ps : List Place) (S : Pl) (L : List Pl) (c : Nat) : List Int := (rowAt ps S L c).2 ++ List.replicate (37 - c) 0
def bfsM (ps : List Place) : Nat → List Pl → Nat → List Bool → List (List Int) → Option Lang
 | 0, _, _, _, _ => none
 | n + 1, L, k, A, N => if k < L.length then
   (if 16 < (rowAt ps (L.getD k noSet) L 37).1.length then none else bfsM ps n (rowAt ps (L.getD k noSet) L 37).1 (k + 1) (A ++ [acceptS ps (L.getD k noSet)]) (N ++ [(rowAt ps (L.getD k noSet) L 37).2]))
  else some { Accept := A, Next := N }
def startAt (st : List Int) : Nat → Pl
 | 0 => noSet
 | i + 1 => upd (startAt st i) (st.getD i 0).toNat true
def startS (x : Option (List Place × List Int)) : Pl := closedS (plOf x) (startAt (stOf x) (stOf x).length)
def langS (s : List UInt8) : Lang × Int := if 64 < s.length then (dLang, 2) else if (parseS s).isSome = false then (dLang, 5) else
 match bfsM (plOf (parseS s)) 17 [startS (parseS s)] 0 [] [] with
 | some l => (l, 0)
 | none => (dLang, 2)
theorem parse_bound2 : ∀ {k : Nat} {ps : List Place} {st : List Int} {r : List UInt8} {n : Nat} {y}, st.length + r.length ≤ n + 1 → parseM k ps st r = some y → y.2.length ≤ n + 1
 | 0, _, _, _, _, _, _, h => by cases h
 | k + 1, ps, st, r, n, y, h2, h => by
  unfold parseM at h
  split at h
  ·split at h
   ·cases h
   ·split at h
    ·cases h
     simp only; omega
    ·rename_i hn
     have hp := List.length_pos_iff.2 hn
     exact parse_bound2 (by simp; omega) h
  ·rename_i hr
   have hp : 0 < r.length := List.length_pos_iff.2 fun e => hr (.inl e)
   have q1 := pRest_le hp
   split at h
   ·split at h
    ·exact parse_bound2 (by omega) h
    ·exact parse_bound2 (by omega) h
   ·cases h
theorem parse_bound : ∀ {k : Nat} {ps : List Place} {st : List Int} {r : List UInt8} {n : Nat} {y}, (∀ i, i < st.length → 0 ≤ st.getD i 0 ∧ st.getD i 0 ≤ n) → ps.length + r.length ≤ n → parseM k ps st r = some y → (∀ i, i < y.2.length → 0 ≤ y.2.getD i 0 ∧ y.2.getD i 0 ≤ n) ∧ y.1.length ≤ n + 1
 | 0, _, _, _, _, _, _, _, h => by cases h
 | k + 1, ps, st, r, n, y, h1, h2, h => by
  unfold parseM at h
  split at h
  ·rename_i hr
   split at h
   ·cases h
   ·split at h
    ·cases h
     exact ⟨h1, by simp; omega⟩
    ·rename_i hn
     have hp := List.length_pos_iff.2 hn
     refine parse_bound (fun i hi => ?_) ?_ h
     ·rw [List.length_append] at hi
      simp only [List.length_cons, List.length_nil] at hi
      by_cases hlt : i < st.length
      ·have := h1 i hlt
       simpa [List.getD_eq_getElem?_getD, List.getElem?_append_left hlt] using this
      ·have : i = st.length := by omega
       subst this
       simp; omega
     ·simp; omega
  ·rename_i hr
   have hp : 0 < r.length := List.length_pos_iff.2 fun e => hr (.inl e)
   have q1 := pRest_le hp
   split at h
   ·split at h
    ·rename_i h43
     have q2 := pRest_le2 hp h43
     exact parse_bound h1 (by simp; omega) h
    ·exact parse_bound h1 (by simp; omega) h
   ·cases h
theorem parseS_bound {s : List UInt8} : (∀ i, i < (stOf (parseS s)).length → 0 ≤ (stOf (parseS s)).getD i 0 ∧ (stOf (parseS s)).getD i 0 ≤ s.length) ∧ (plOf (parseS s)).length ≤ s.length + 1 ∧ (stOf (parseS s)).length ≤ s.length + 1 := by
 cases h : parseS s with
 | none => exact ⟨fun i hi => by simp [stOf] at hi, by simp [plOf], by simp [stOf]⟩
 | some y =>
  have := parse_bound (n := s.length) (fun i hi => by
   have : i = 0 := by simpa using hi
   subst this
   simp) (by simp) h
  exact ⟨this.1, this.2, parse_bound2 (n := s.length) (st := [0]) (r := s) (by simp; omega) h⟩
def idxV (S : Pl) (L : List Pl) : Int := match idx S L 0 with
 | some i => i
 | none => 0
theorem eqD_refl (d : D) : eqD d d := by
 unfold eqD
 split
 ·simp
 ·rfl
 ·rfl
 ·rw [if_pos rfl]; exact ⟨rfl, fun _ _ => rfl⟩
 ·rfl
theorem eqD_of {d d' : D} (h : d = d') : eqD d d' := h ▸ eqD_refl d
theorem look_v (S : Pl) (L : List Pl) : eqD (.p ((mapK (L.map keyS) (keyS S)).getD (.v (.int .i64 0)))) (vint .i64 (idxV S L)) := by
 refine eqD_of (congrArg D.p ?_)
 unfold mapK idxV
 rw [idx_map]
 cases idx S L 0 <;> rfl
theorem look_b (S : Pl) (L : List Pl) : (mapK (L.map keyS) (keyS S)).isSome = (idx S L 0).isSome := by
 unfold mapK
 rw [idx_map]
 cases idx S L 0 <;> rfl
theorem mapK_one (S : Pl) : setMap (fun _ => none) (keyS S) (.v (.int .i64 0)) = mapK ([S].map keyS) := mapK_push (K := []) rfl
theorem mapK_next {S : Pl} {L : List Pl} (h : idx S L 0 = none) : setMap (mapK (L.map keyS)) (keyS S) (.v (.int .i64 (L.length : Int))) = mapK ((L ++ [S]).map keyS) := by
 have := mapK_push (K := L.map keyS) (k := keyS S) (by rw [idx_map]; exact h)
 rw [List.length_map] at this
 rw [this, List.map_append]
 rfl
def atS (ps : List Place) (S : Pl) (L : List Pl) (c : Nat) : Int := if keyS (stepS ps S c) = [0, 0] then -1 else
  match idx (stepS ps S c) (rowAt ps S L c).1 0 with
  | some i => (i : Int)
  | none => ((rowAt ps S L c).1.length : Int)
section
variable {ps : List Place} {S : Pl} {L : List Pl} {c : Nat}
theorem rowAt_0 (h : keyS (stepS ps S c) = [0, 0]) : (rowAt ps S L (c + 1)).1 = (rowAt ps S L c).1 ∧ atS ps S L c = -1 := by
 rw [rowAt, atS, if_pos h, if_pos h]; exact ⟨rfl, rfl⟩
theorem rowAt_i (h : ¬ keyS (stepS ps S c) = [0, 0]) (h1 : (idx (stepS ps S c) (rowAt ps S L c).1 0).isSome = true) : (rowAt ps S L (c + 1)).1 = (rowAt ps S L c).1 ∧ atS ps S L c = idxV (stepS ps S c) (rowAt ps S L c).1 := by
 rw [rowAt, atS, idxV, if_neg h, if_neg h]
 cases hh : idx (stepS ps S c) (rowAt ps S L c).1 0 with
 | none => rw [hh] at h1; cases h1
 | some i => exact ⟨rfl, rfl⟩
theorem rowAt_n (h : ¬ keyS (stepS ps S c) = [0, 0]) (h1 : (idx (stepS ps S c) (rowAt ps S L c).1 0).isSome = false) : (rowAt ps S L (c + 1)).1 = (rowAt ps S L c).1 ++ [stepS ps S c] ∧ atS ps S L c = (rowAt ps S L c).1.length ∧ idx (stepS ps S c) (rowAt ps S L c).1 0 = none := by
 rw [rowAt, atS, if_neg h, if_neg h]
 cases hh : idx (stepS ps S c) (rowAt ps S L c).1 0 with
 | some i => rw [hh] at h1; cases h1
 | none => exact ⟨rfl, rfl, rfl⟩
theorem rowAt_row : (rowAt ps S L (c + 1)).2 = (rowAt ps S L c).2 ++ [atS ps S L c] := by
 rw [rowAt, atS]
 split
 ·rfl
 ·cases idx (stepS ps S c) (rowAt ps S L c).1 0 <;> rfl
theorem rowAt_len : (rowAt ps S L c).1.length ≤ L.length + c ∧ (rowAt ps S L c).2.length = c := by
 induction c with
 | zero => exact ⟨Nat.le_refl _, rfl⟩
 | succ c ih =>
  rw [rowAt_row, List.length_append, ih.2]
  refine ⟨?_, rfl⟩
  rw [rowAt]
  split
  ·have := ih.1; simp only; omega
  ·split
   ·have := ih.1; simp only; omega
   ·have := ih.1; simp only [List.length_append, List.length_cons, List.length_nil]; omega
theorem rowAt_get {k : Nat} (h : k < L.length) : L.length ≤ (rowAt ps S L c).1.length ∧ (rowAt ps S L c).1.getD k noSet = L.getD k noSet := by
 induction c with
 | zero => exact ⟨Nat.le_refl _, rfl⟩
 | succ c ih =>
  rw [rowAt]
  split
  ·exact ih
  ·split
   ·exact ih
   ·refine ⟨by simp only [List.length_append]; omega, ?_⟩
    simp only
    rw [← ih.2]
    simp only [List.getD_eq_getElem?_getD]
    rw [List.getElem?_append_left (by omega)]
theorem row_set (hc : c < 37) : (rowL ps S L c).set c (atS ps S L c) = rowL ps S L (c + 1) := by
 unfold rowL
 have h := (rowAt_len (ps := ps) (S := S) (L := L) (c := c)).2
 obtain ⟨m, hm⟩ : ∃ m, 37 - c = m + 1 := ⟨36 - c, by omega⟩
 rw [hm, show 37 - (c + 1) = m by omega, List.replicate_succ, List.set_append, if_neg (by omega), h, Nat.sub_self, List.set_cons_zero, rowAt_row, List.append_assoc]
 rfl
theorem rowL_37 : rowL ps S L 37 = (rowAt ps S L 37).2 := by simp [rowL]
theorem rowL_len (h : c ≤ 37) : (rowL ps S L c).length = 37 := by
 have := (rowAt_len (ps := ps) (S := S) (L := L) (c := c)).2
 simp [rowL, this]; omega
end
theorem bfs_step {ps : List Place} {n : Nat} {L : List Pl} {k : Nat} {A : List Bool} {N : List (List Int)} (hn : 0 < n) (h : k < L.length) (h1 : ¬ 16 < (rowAt ps (L.getD k noSet) L 37).1.length) : bfsM ps n L k A N = bfsM ps (n - 1) (rowAt ps (L.getD k noSet) L 37).1 (k + 1) (A ++ [acceptS ps (L.getD k noSet)]) (N ++ [(rowAt ps (L.getD k noSet) L 37).2]) := by
 obtain ⟨n, rfl⟩ : ∃ j, n = j + 1 := ⟨n - 1, by omega⟩
 rw [bfsM, if_pos h, if_neg h1]; rfl
theorem bfs_many {ps : List Place} {n : Nat} {L : List Pl} {k : Nat} {A : List Bool} {N : List (List Int)} (hn : 0 < n) (h : k < L.length) (h1 : 16 < (rowAt ps (L.getD k noSet) L 37).1.length) : bfsM ps n L k A N = none := by
 obtain ⟨n, rfl⟩ : ∃ j, n = j + 1 := ⟨n - 1, by omega⟩
 rw [bfsM, if_pos h, if_pos h1]
theorem bfs_end {ps : List Place} {n : Nat} {L : List Pl} {k : Nat} {A : List Bool} {N : List (List Int)} (hn : 0 < n) (h : ¬ k < L.length) : bfsM ps n L k A N = some { Accept := A, Next := N } := by
 obtain ⟨n, rfl⟩ : ∃ j, n = j + 1 := ⟨n - 1, by omega⟩
 rw [bfsM, if_neg h]
theorem langS_1 {s : List UInt8} (h : 64 < s.length) : langS s = (dLang, 2) := by rw [langS, if_pos h]
theorem langS_2 {s : List UInt8} (h : ¬ 64 < s.length) (h1 : (parseS s).isSome = false) : langS s = (dLang, 5) := by rw [langS, if_neg h, if_pos h1]
theorem langS_3 {s : List UInt8} (h : ¬ 64 < s.length) (h1 : ¬ (parseS s).isSome = false) (h2 : bfsM (plOf (parseS s)) 17 [startS (parseS s)] 0 [] [] = none) : langS s = (dLang, 2) := by rw [langS, if_neg h, if_neg h1, h2]
theorem langS_4 {s : List UInt8} {l : Lang} (h : ¬ 64 < s.length) (h1 : ¬ (parseS s).isSome = false) (h2 : bfsM (plOf (parseS s)) 17 [startS (parseS s)] 0 [] [] = some l) : langS s = (l, 0) := by rw [langS, if_neg h, if_neg h1, h2]
theorem err_lang {x : Lang} (h : x = dLang) : ImpC (.p (.agg [.v (.slice none 0 0), .v (.slice none 0 0)])) (.p (eLang x)) := by
 subst h
 exact impC_cons impC_nil (impC_cons impC_nil impC_end)
theorem ok_lang {A : List Bool} {N : List (List Int)} {x : Lang} (h : x = { Accept := A, Next := N }) : ImpC (.p (.agg [eL eB 1 false A, eL (eL eI 1 0) 1 [] N])) (.p (eLang x)) := by
 subst h
 exact impC_eq rfl
theorem Parse_ok (s : List UInt8) (hb0 : s.length < 4611686018427387904) : Pure Try.prog 11 [.s s] (.tup [.p (eLang ((langS s).1)), vint .i64 ((langS s).2)]) := by
 have hpb := parseS_bound (s := s)
 refine pure_of (fn := Try.f11) Try.func11 rfl rfl fun F_ W0_ => ?_
 refine tr_seq (q_t [0, 2] [vstr s, .ref 0 []] [.box (.p (.agg [.v (.slice none 0 0), .v (.slice none 0 0)]))] (tr_then (tr_seq (tr_seq (q_m [0, 2, 24] [vstr s, .ref 0 [], vbool (decide (64 < (s.length : Int)))] (tr_then (q_e (64 < (s.length : Int)) (fun hc1 => ?_) (fun hc1 => ?_))))))))
 ·refine tr_seq (q_m [2, 3] [.ref 0 [], vint .i64 2] (tr_then (tr_pre (E' := [(2, none, .ref 0 []), (3, none, vint .i64 2)]) (H' := [.box (.p (.agg [.v (.slice none 0 0), .v (.slice none 0 0)]))]) (fun _ _ h => q_w [0] [2, 3] h) (tr_pre (fun _ _ => sl_obj_imp (d := .p (.agg [.v (.slice none 0 0), .v (.slice none 0 0)])) 0 (.p (eLang ((langS s).1))) (by kernel_rfl) ?_) ?_))))
  ·refine err_lang ?_
   first | (rw [langS_1 (by omega)]; done) | (rw [langS_2 (by omega) hc2]; done) | (obtain rfl : c = 37 := (by omega); rw [langS_3 (by omega) hc2 (by rw [← hi1_0]; exact bfs_many (by omega) (by omega) (by omega))]; done) | (rw [langS_4 (by omega) hc2 (by rw [← hi1_0]; exact bfs_end (by omega) (by omega))]; done)
  refine q_i (d := vint .i64 2) 3 (vint .i64 ((langS s).2)) ?_ ?_
  ·refine imp_eq (congrArg (fun x => D.p (eI x)) (a₁ := 2) (a₂ := ((langS s).2)) ?_)
   first | (rw [langS_1 (by omega)]; done) | (rw [langS_2 (by omega) hc2]; done) | (obtain rfl : c = 37 := (by omega); rw [langS_3 (by omega) hc2 (by rw [← hi1_0]; exact bfs_many (by omega) (by omega) (by omega))]; done) | (rw [langS_4 (by omega) hc2 (by rw [← hi1_0]; exact bfs_end (by omega) (by omega))]; done)
  exact q_z [.p (eLang ((langS s).1)), vint .i64 ((langS s).2)] (fun _ _ h => h)
 ·refine tr_skip (tr_then (tr_seq (q_k [Pure Try.prog 31 [.s s] (.tup [.p ((eL ePlace 3 dPlace) (plOf (parseS s))), .p ((eL eI 1 0) (stOf (parseS s))), vbool ((parseS s).isSome)])] [2, 4, 5, 6] [.ref 0 [], .p ((eL ePlace 3 dPlace) (plOf (parseS s))), .p ((eL eI 1 0) (stOf (parseS s))), vbool ((parseS s).isSome)] [] [(1, .tup [.p ((eL ePlace 3 dPlace) (plOf (parseS s))), .p ((eL eI 1 0) (stOf (parseS s))), vbool ((parseS s).isSome)])] (al (parse_ok _ (by omega)) (trivial)) (tr_then (tr_seq (tr_seq (q_m [2, 4, 5, 33] [.ref 0 [], .p ((eL ePlace 3 dPlace) (plOf (parseS s))), .p ((eL eI 1 0) (stOf (parseS s))), vbool (!((parseS s).isSome))] (tr_then (q_c (!((parseS s).isSome)) (((parseS s).isSome) = false) (fun hc2 => ?_) (fun hc2 => ?_))))))))))
  ·refine tr_seq (q_m [2, 3] [.ref 0 [], vint .i64 5] (tr_then (tr_pre (E' := [(2, none, .ref 0 []), (3, none, vint .i64 5)]) (H' := [.box (.p (.agg [.v (.slice none 0 0), .v (.slice none 0 0)]))]) (fun _ _ h => q_w [0] [2, 3] h) (tr_pre (fun _ _ => sl_obj_imp (d := .p (.agg [.v (.slice none 0 0), .v (.slice none 0 0)])) 0 (.p (eLang ((langS s).1))) (by kernel_rfl) ?_) ?_))))
   ·refine err_lang ?_
    first | (rw [langS_1 (by omega)]; done) | (rw [langS_2 (by omega) hc2]; done) | (obtain rfl : c = 37 := (by omega); rw [langS_3 (by omega) hc2 (by rw [← hi1_0]; exact bfs_many (by omega) (by omega) (by omega))]; done) | (rw [langS_4 (by omega) hc2 (by rw [← hi1_0]; exact bfs_end (by omega) (by omega))]; done)
   refine q_i (d := vint .i64 5) 3 (vint .i64 ((langS s).2)) ?_ ?_
   ·refine imp_eq (congrArg (fun x => D.p (eI x)) (a₁ := 5) (a₂ := ((langS s).2)) ?_)
    first | (rw [langS_1 (by omega)]; done) | (rw [langS_2 (by omega) hc2]; done) | (obtain rfl : c = 37 := (by omega); rw [langS_3 (by omega) hc2 (by rw [← hi1_0]; exact bfs_many (by omega) (by omega) (by omega))]; done) | (rw [langS_4 (by omega) hc2 (by rw [← hi1_0]; exact bfs_end (by omega) (by omega))]; done)
   exact q_z [.p (eLang ((langS s).1)), vint .i64 ((langS s).2)] (fun _ _ h => h)
  ·refine tr_skip (tr_then (tr_seq (q_t [2, 4, 5, 7] [.ref 0 [], .p ((eL ePlace 3 dPlace) (plOf (parseS s))), .p ((eL eI 1 0) (stOf (parseS s))), .ref 1 []] [.box (.p (.agg [.v (.slice none 0 0), .v (.slice none 0 0)])), .box (.p ((eA (eK .u64) 1 2) (fun _ => 0)))] (tr_then (tr_seq (tr_seq (q_m [2, 4, 7, 35, 36, 37] [.ref 0 [], .p ((eL ePlace 3 dPlace) (plOf (parseS s))), .ref 1 [], .p ((eL eI 1 0) (stOf (parseS s))), vint .i64 (((stOf (parseS s)).length : Nat) : Int), vint .i64 0] (tr_then (tr_block (tr_loop (α := Nat) (fun z : Nat => (fun (n0 : Nat) => [(2, none, .ref 0 []), (4, none, .p ((eL ePlace 3 dPlace) (plOf (parseS s)))), (7, none, .ref 1 []), (35, none, .p ((eL eI 1 0) (stOf (parseS s)))), (36, none, vint .i64 (((stOf (parseS s)).length : Nat) : Int)), (37, none, vint .i64 (n0 : Int))]) z) (fun z : Nat => (fun (n0 : Nat) => [.box (.p (.agg [.v (.slice none 0 0), .v (.slice none 0 0)])), .box (.p ((eA (eK .u64) 1 2) (setW (startAt (stOf (parseS s)) n0))))]) z) (fun z : Nat => (fun (n0 : Nat) => (n0 ≤ (stOf (parseS s)).length)) z) (fun z : Nat => (fun (n0 : Nat) => (stOf (parseS s)).length - n0) z) 0 ?_ ?_ ?_))))))))))
   ·show (0 ≤ (stOf (parseS s)).length)
    ·omega
   ·intro A_ W_ hS
    replace hS := q_a (d := vint .i64 0) 37 (vint .i64 ((0 : Nat) : Int)) (eqD_int (by omega)) hS
    replace hS := sl_obj_imp (d := .p ((eA (eK .u64) 1 2) (fun _ => 0))) 1 (.p ((eA (eK .u64) 1 2) (setW (startAt (stOf (parseS s)) 0)))) (by kernel_rfl) (impC_eq (congrArg (fun x => D.p ((eA (eK .u64) 1 2) x)) (a₁ := (fun _ => 0)) (a₂ := (setW (startAt (stOf (parseS s)) 0))) (by exact setW_empty))) hS
    exact q_w [0, 1] [2, 4, 7, 35, 36, 37] hS
   ·intro z hz
    revert z; intro n0 hz
    have hz : (n0 ≤ (stOf (parseS s)).length) := hz
    have hi0_0 := hz
    have hpi := hpb.1 n0
    refine tr_seq (q_t [2, 4, 7, 35, 36, 37, 38] [.ref 0 [], .p ((eL ePlace 3 dPlace) (plOf (parseS s))), .ref 1 [], .p ((eL eI 1 0) (stOf (parseS s))), vint .i64 (((stOf (parseS s)).length : Nat) : Int), vint .i64 (n0 : Int), vbool (decide ((n0 : Int) < (((stOf (parseS s)).length : Nat) : Int)))] [.box (.p (.agg [.v (.slice none 0 0), .v (.slice none 0 0)])), .box (.p ((eA (eK .u64) 1 2) (setW (startAt (stOf (parseS s)) n0))))] (tr_then (tr_seq (q_e ((n0 : Int) < (((stOf (parseS s)).length : Nat) : Int)) (fun hc3 => ?_) (fun hc3 => ?_)))))
    ·refine tr_skip (tr_then (tr_seq (tr_block (tr_seq (q_k [(0 : Int) ≤ (n0 : Int), (n0 : Int) < ((stOf (parseS s)).length : Int), ((stOf (parseS s)).getD n0 0) = ((((stOf (parseS s)).getD n0 0).toNat : Nat) : Int)] [2, 4, 7, 9, 35, 36, 37] [.ref 0 [], .p ((eL ePlace 3 dPlace) (plOf (parseS s))), .ref 1 [], vint .i64 ((((stOf (parseS s)).getD n0 0).toNat : Nat) : Int), .p ((eL eI 1 0) (stOf (parseS s))), vint .i64 (((stOf (parseS s)).length : Nat) : Int), vint .i64 (n0 : Int)] [(1, vint .i64 ((((stOf (parseS s)).getD n0 0).toNat : Nat) : Int))] [] (al (by omega) (al (by omega) (al (by omega) (trivial)))) (tr_then (q_r [Mut Try.prog 32 ((eA (eK .u64) 1 2) (setW (startAt (stOf (parseS s)) n0))) [.v (.int .i64 ((((stOf (parseS s)).getD n0 0).toNat : Nat) : Int))] ((eA (eK .u64) 1 2) (setW (upd (startAt (stOf (parseS s)) n0) (((stOf (parseS s)).getD n0 0).toNat) true))) (.tup [])] [2, 4, 7, 35, 36, 37] [.ref 0 [], .p ((eL ePlace 3 dPlace) (plOf (parseS s))), .ref 1 [], .p ((eL eI 1 0) (stOf (parseS s))), vint .i64 (((stOf (parseS s)).length : Nat) : Int), vint .i64 (n0 : Int)] [.box (.p (.agg [.v (.slice none 0 0), .v (.slice none 0 0)])), .box (.p ((eA (eK .u64) 1 2) (setW (upd (startAt (stOf (parseS s)) n0) (((stOf (parseS s)).getD n0 0).toNat) true))))] [] [(1, .tup [.p ((eA (eK .u64) 1 2) (setW (upd (startAt (stOf (parseS s)) n0) (((stOf (parseS s)).getD n0 0).toNat) true))), .tup []])] (al (setAdd_ok _ _ (by omega)) (trivial)) (in_n (tr_then (q_k [(IntKind.wrap .i64 ((n0 : Int) + 1)) = (((n0 + 1) : Nat) : Int)] [2, 4, 7, 35, 36, 37] [.ref 0 [], .p ((eL ePlace 3 dPlace) (plOf (parseS s))), .ref 1 [], .p ((eL eI 1 0) (stOf (parseS s))), vint .i64 (((stOf (parseS s)).length : Nat) : Int), vint .i64 (((n0 + 1) : Nat) : Int)] [(0, vint .i64 (((n0 + 1) : Nat) : Int))] [] (al (wr64 (by omega) (by omega) (by omega)) (trivial)) (lp_end (n0 + 1) ?_ ?_ ?_)))))))))))
     ·show ((n0 + 1) ≤ (stOf (parseS s)).length)
      ·omega
     ·show (stOf (parseS s)).length - (n0 + 1) < (stOf (parseS s)).length - n0
      omega
     ·intro A_ W_ hS
      replace hS := sl_obj_imp (d := .p ((eA (eK .u64) 1 2) (setW (upd (startAt (stOf (parseS s)) n0) (((stOf (parseS s)).getD n0 0).toNat) true)))) 1 (.p ((eA (eK .u64) 1 2) (setW (startAt (stOf (parseS s)) (n0 + 1))))) (by kernel_rfl) (impC_eq (congrArg (fun x => D.p ((eA (eK .u64) 1 2) x)) (a₁ := (setW (upd (startAt (stOf (parseS s)) n0) (((stOf (parseS s)).getD n0 0).toNat) true))) (a₂ := (setW (startAt (stOf (parseS s)) (n0 + 1)))) (by rfl))) hS
      exact q_w [0, 1] [2, 4, 7, 35, 36, 37] hS
    ·refine tr_exit (th_e (th_e (in_hit (tr_then (tr_seq (q_r [Pure Try.prog 33 [(eL ePlace 3 dPlace) (plOf (parseS s)), (eA (eK .u64) 1 2) (setW (startAt (stOf (parseS s)) n0))] (.p ((eA (eK .u64) 1 2) (setW (closedS (plOf (parseS s)) (startAt (stOf (parseS s)) n0)))))] [2, 4, 10] [.ref 0 [], .p ((eL ePlace 3 dPlace) (plOf (parseS s))), .own 2] [.box (.p (.agg [.v (.slice none 0 0), .v (.slice none 0 0)])), .box (.p ((eA (eK .u64) 1 2) (setW (startAt (stOf (parseS s)) n0)))), .arr 67 2 1 (fun j => ([.p ((eA (eK .u64) 1 2) (setW (closedS (plOf (parseS s)) (startAt (stOf (parseS s)) n0))))] : List D).getD j default)] [] [(2, .p ((eA (eK .u64) 1 2) (setW (closedS (plOf (parseS s)) (startAt (stOf (parseS s)) n0)))))] (al (closed_ok _ _ (by omega)) (trivial)) (nm_pre (E' := [(2, none, .ref 0 []), (4, none, .p ((eL ePlace 3 dPlace) (plOf (parseS s)))), (10, none, .own 2)]) (H' := [.box (.p (.agg [.v (.slice none 0 0), .v (.slice none 0 0)])), .box (.p ((eA (eK .u64) 1 2) (setW (startAt (stOf (parseS s)) n0)))), oL 67 (eA (eK .u64) 1 2) 2 (fun _ => 0) ([(setW (closedS (plOf (parseS s)) (startAt (stOf (parseS s)) n0)))])]) (fun _ _ => sl_arr (n := 1) (n' := ([(setW (closedS (plOf (parseS s)) (startAt (stOf (parseS s)) n0)))]).length) (f := fun j => ([.p ((eA (eK .u64) 1 2) (setW (closedS (plOf (parseS s)) (startAt (stOf (parseS s)) n0))))] : List D).getD j default) 2 (fun i => .p ((eA (eK .u64) 1 2) (([(setW (closedS (plOf (parseS s)) (startAt (stOf (parseS s)) n0)))]).getD i (fun _ => 0)))) (by kernel_rfl) (rfl) (by exact lit_getD (e := (eA (eK .u64) 1 2)) (d := (fun _ => 0)) (l := [(setW (closedS (plOf (parseS s)) (startAt (stOf (parseS s)) n0)))]))) (tr_then (tr_seq (q_s [(0 : Int) ≤ 0, 0 < (([(setW (closedS (plOf (parseS s)) (startAt (stOf (parseS s)) n0)))]).length : Int), 0 < ([(setW (closedS (plOf (parseS s)) (startAt (stOf (parseS s)) n0)))]).length] [2, 4, 10, 11] [.ref 0 [], .p ((eL ePlace 3 dPlace) (plOf (parseS s))), .own 2, .own 3] [.box (.p (.agg [.v (.slice none 0 0), .v (.slice none 0 0)])), .box (.p ((eA (eK .u64) 1 2) (setW (startAt (stOf (parseS s)) n0)))), oL 67 (eA (eK .u64) 1 2) 2 (fun _ => 0) ([(setW (closedS (plOf (parseS s)) (startAt (stOf (parseS s)) n0)))]), .map (.arr 2 .u64) (setMap (fun _ => none) ([(([(setW (closedS (plOf (parseS s)) (startAt (stOf (parseS s)) n0)))]).getD 0 (fun _ => 0)) 0, (([(setW (closedS (plOf (parseS s)) (startAt (stOf (parseS s)) n0)))]).getD 0 (fun _ => 0)) 1] : List Int) (.v (.int .i64 0)))] (al (by omega) (al (by simp; done) (al (by simp; done) (trivial)))) (tr_then (tr_seq (q_t [2, 4, 10, 11, 12] [.ref 0 [], .p ((eL ePlace 3 dPlace) (plOf (parseS s))), .own 2, .own 3, .ref 4 []] [.box (.p (.agg [.v (.slice none 0 0), .v (.slice none 0 0)])), .box (.p ((eA (eK .u64) 1 2) (setW (startAt (stOf (parseS s)) n0)))), oL 67 (eA (eK .u64) 1 2) 2 (fun _ => 0) ([(setW (closedS (plOf (parseS s)) (startAt (stOf (parseS s)) n0)))]), .map (.arr 2 .u64) (setMap (fun _ => none) ([(([(setW (closedS (plOf (parseS s)) (startAt (stOf (parseS s)) n0)))]).getD 0 (fun _ => 0)) 0, (([(setW (closedS (plOf (parseS s)) (startAt (stOf (parseS s)) n0)))]).getD 0 (fun _ => 0)) 1] : List Int) (.v (.int .i64 0))), .box (.p (.agg [.v (.slice none 0 0), .v (.slice none 0 0)]))] (tr_then (tr_seq (tr_seq (q_m [2, 4, 10, 11, 12, 13] [.ref 0 [], .p ((eL ePlace 3 dPlace) (plOf (parseS s))), .own 2, .own 3, .ref 4 [], vint .i64 0] (tr_then (tr_block (tr_loop (α := Nat × (List Pl) × (List Bool) × (List (List Int))) (fun z : Nat × (List Pl) × (List Bool) × (List (List Int)) => (fun (k : Nat) (L : List Pl) (A : List Bool) (Nx : List (List Int)) => [(2, none, .ref 0 []), (4, none, .p ((eL ePlace 3 dPlace) (plOf (parseS s)))), (10, none, .own 2), (11, none, .own 3), (12, none, .ref 4 []), (13, none, vint .i64 (k : Int))]) z.1 z.2.1 z.2.2.1 z.2.2.2) (fun z : Nat × (List Pl) × (List Bool) × (List (List Int)) => (fun (k : Nat) (L : List Pl) (A : List Bool) (Nx : List (List Int)) => [.box (.p (.agg [.v (.slice none 0 0), .v (.slice none 0 0)])), .box (.p ((eA (eK .u64) 1 2) (setW (startAt (stOf (parseS s)) n0)))), oL 67 (eA (eK .u64) 1 2) 2 (fun _ => 0) (L.map setW), .map (.arr 2 .u64) (mapK (L.map keyS)), .box (.agg [.own 5, .own 6]), oL 4 eB 1 false A, oL 22 (eL eI 1 0) 1 [] Nx]) z.1 z.2.1 z.2.2.1 z.2.2.2) (fun z : Nat × (List Pl) × (List Bool) × (List (List Int)) => (fun (k : Nat) (L : List Pl) (A : List Bool) (Nx : List (List Int)) => (bfsM (plOf (parseS s)) (17 - k) L k A Nx = bfsM (plOf (parseS s)) 17 [startS (parseS s)] 0 [] []) ∧ (k ≤ L.length) ∧ (L.length ≤ 16) ∧ (A.length = k) ∧ (Nx.length = k)) z.1 z.2.1 z.2.2.1 z.2.2.2) (fun z : Nat × (List Pl) × (List Bool) × (List (List Int)) => (fun (k : Nat) (L : List Pl) (A : List Bool) (Nx : List (List Int)) => 17 - k) z.1 z.2.1 z.2.2.1 z.2.2.2) (0, [startS (parseS s)], ([] : List Bool), ([] : List (List Int))) ?_ ?_ ?_))))))))))))))))))))
     ·show (bfsM (plOf (parseS s)) (17 - 0) ([startS (parseS s)]) 0 ([] : List Bool) ([] : List (List Int)) = bfsM (plOf (parseS s)) 17 [startS (parseS s)] 0 [] []) ∧ (0 ≤ ([startS (parseS s)]).length) ∧ (([startS (parseS s)]).length ≤ 16) ∧ (([] : List Bool).length = 0) ∧ (([] : List (List Int)).length = 0)
      refine ⟨?_, ?_, ?_, ?_, ?_⟩
      ·(simp; done)
      ·omega
      ·(simp; done)
      ·(simp; done)
      ·(simp; done)
     ·intro A_ W_ hS
      replace hS := q_a (d := vint .i64 0) 13 (vint .i64 ((0 : Nat) : Int)) (eqD_int (by omega)) hS
      replace hS := sl_nil_box (d := .p (.agg [.v (.slice none 0 0), .v (.slice none 0 0)])) (l := [.p (.v (.slice none 0 0)), .p (.v (.slice none 0 0))]) 4 0 4 1 (fun i => .p (eB (([] : List Bool).getD i false))) (by kernel_rfl) (by kernel_rfl) (by kernel_rfl) hS
      replace hS := sl_nil_box (d := .agg [.own 5, .p (.v (.slice none 0 0))]) (l := [.own 5, .p (.v (.slice none 0 0))]) 4 1 22 1 (fun i => .p ((eL eI 1 0) (([] : List (List Int)).getD i []))) (by kernel_rfl) (by kernel_rfl) (by kernel_rfl) hS
      replace hS := sl_obj (o := .map (.arr 2 .u64) (setMap (fun _ => none) ([(([(setW (closedS (plOf (parseS s)) (startAt (stOf (parseS s)) n0)))]).getD 0 (fun _ => 0)) 0, (([(setW (closedS (plOf (parseS s)) (startAt (stOf (parseS s)) n0)))]).getD 0 (fun _ => 0)) 1] : List Int) (.v (.int .i64 0)))) 3 (.map (.arr 2 .u64) (mapK (([startS (parseS s)]).map keyS))) (by kernel_rfl) (congrArg (O.map (.arr 2 .u64)) (a₁ := (setMap (fun _ => none) ([(([(setW (closedS (plOf (parseS s)) (startAt (stOf (parseS s)) n0)))]).getD 0 (fun _ => 0)) 0, (([(setW (closedS (plOf (parseS s)) (startAt (stOf (parseS s)) n0)))]).getD 0 (fun _ => 0)) 1] : List Int) (.v (.int .i64 0)))) (a₂ := (mapK (([startS (parseS s)]).map keyS))) (by rw [show n0 = (stOf (parseS s)).length by omega]; exact mapK_one (startS (parseS s)))) hS
      replace hS := sl_arr (e := 67) (sz := 2) (n := ([(setW (closedS (plOf (parseS s)) (startAt (stOf (parseS s)) n0)))]).length) (n' := (([startS (parseS s)]).map setW).length) (f := (fun i => .p ((eA (eK .u64) 1 2) (([(setW (closedS (plOf (parseS s)) (startAt (stOf (parseS s)) n0)))]).getD i (fun _ => 0))))) 2 (fun i => .p ((eA (eK .u64) 1 2) ((([startS (parseS s)]).map setW).getD i (fun _ => 0)))) (by kernel_rfl) (by (simp; done)) (by intro j hj; rw [show n0 = (stOf (parseS s)).length by omega]; rfl) hS
      exact q_v [∀ i, i < (([startS (parseS s)]).map setW).length → D.p ((eA (eK .u64) 1 2) ((([startS (parseS s)]).map setW).getD i (fun _ => 0))) = .p ((eA (eK .u64) 1 2) ((([startS (parseS s)]).map setW).getD i (fun _ => 0))), ∀ i, i < ([] : List Bool).length → D.p (eB (([] : List Bool).getD i false)) = .p (eB (([] : List Bool).getD i false)), ∀ i, i < ([] : List (List Int)).length → D.p ((eL eI 1 0) (([] : List (List Int)).getD i [])) = .p ((eL eI 1 0) (([] : List (List Int)).getD i []))] [0, 1, 2, 3, 4, 5, 6] [2, 4, 10, 11, 12, 13] (al (fun _ _ => rfl) (al (fun _ _ => rfl) (al (fun _ _ => rfl) trivial))) hS
     ·intro z hz
      obtain ⟨k, L, A, Nx⟩ := z
      have hz : (bfsM (plOf (parseS s)) (17 - k) L k A Nx = bfsM (plOf (parseS s)) 17 [startS (parseS s)] 0 [] []) ∧ (k ≤ L.length) ∧ (L.length ≤ 16) ∧ (A.length = k) ∧ (Nx.length = k) := hz
      obtain ⟨hi1_0, hi1_1, hi1_2, hi1_3, hi1_4⟩ := hz
      have hlm : (L.map setW).length = L.length := List.length_map ..
      have hr := rowAt_len (ps := (plOf (parseS s))) (S := L.getD k noSet) (L := L) (c := 37)
      have hlm2 : ((rowAt (plOf (parseS s)) (L.getD k noSet) L 37).1.map setW).length = (rowAt (plOf (parseS s)) (L.getD k noSet) L 37).1.length := List.length_map ..
      refine tr_seq (tr_seq (q_t [2, 4, 10, 11, 12, 13, 56] [.ref 0 [], .p ((eL ePlace 3 dPlace) (plOf (parseS s))), .own 2, .own 3, .ref 4 [], vint .i64 (k : Int), vbool (decide ((k : Int) < (((L.map setW).length : Nat) : Int)))] [.box (.p (.agg [.v (.slice none 0 0), .v (.slice none 0 0)])), .box (.p ((eA (eK .u64) 1 2) (setW (startAt (stOf (parseS s)) n0)))), oL 67 (eA (eK .u64) 1 2) 2 (fun _ => 0) (L.map setW), .map (.arr 2 .u64) (mapK (L.map keyS)), .box (.agg [.own 5, .own 6]), oL 4 eB 1 false A, oL 22 (eL eI 1 0) 1 [] Nx] (tr_then (q_e ((k : Int) < (((L.map setW).length : Nat) : Int)) (fun hc4 => ?_) (fun hc4 => ?_)))))
      ·refine tr_skip (tr_then (tr_seq (tr_block (tr_seq (q_m [2, 4, 10, 11, 12, 13, 14] [.ref 0 [], .p ((eL ePlace 3 dPlace) (plOf (parseS s))), .own 2, .own 3, .ref 4 [], vint .i64 (k : Int), vbool false] (tr_then (tr_seq (tr_seq (q_m [2, 4, 10, 11, 12, 13, 14, 59, 60, 61] [.ref 0 [], .p ((eL ePlace 3 dPlace) (plOf (parseS s))), .own 2, .own 3, .ref 4 [], vint .i64 (k : Int), vbool false, .p ((eL ePlace 3 dPlace) (plOf (parseS s))), vint .i64 (((plOf (parseS s)).length : Nat) : Int), vint .i64 0] (tr_then (tr_block (tr_loop (α := Nat) (fun z : Nat => (fun (q : Nat) => [(2, none, .ref 0 []), (4, none, .p ((eL ePlace 3 dPlace) (plOf (parseS s)))), (10, none, .own 2), (11, none, .own 3), (12, none, .ref 4 []), (13, none, vint .i64 (k : Int)), (14, none, vbool (acc (plOf (parseS s)) (L.getD k noSet) q)), (59, none, .p ((eL ePlace 3 dPlace) (plOf (parseS s)))), (60, none, vint .i64 (((plOf (parseS s)).length : Nat) : Int)), (61, none, vint .i64 (q : Int))]) z) (fun z : Nat => (fun (q : Nat) => [.box (.p (.agg [.v (.slice none 0 0), .v (.slice none 0 0)])), .box (.p ((eA (eK .u64) 1 2) (setW (startAt (stOf (parseS s)) n0)))), oL 67 (eA (eK .u64) 1 2) 2 (fun _ => 0) (L.map setW), .map (.arr 2 .u64) (mapK (L.map keyS)), .box (.agg [.own 5, .own 6]), oL 4 eB 1 false A, oL 22 (eL eI 1 0) 1 [] Nx]) z) (fun z : Nat => (fun (q : Nat) => (q ≤ (plOf (parseS s)).length)) z) (fun z : Nat => (fun (q : Nat) => (plOf (parseS s)).length - q) z) 0 ?_ ?_ ?_))))))))))))
       ·show (0 ≤ (plOf (parseS s)).length)
        ·omega
       ·intro A_ W_ hS
        replace hS := q_a (d := vbool false) 14 (vbool (acc (plOf (parseS s)) (L.getD k noSet) 0)) (eqD_bool (by rfl)) hS
        replace hS := q_a (d := vint .i64 0) 61 (vint .i64 ((0 : Nat) : Int)) (eqD_int (by omega)) hS
        exact q_v [∀ i, i < (L.map setW).length → D.p ((eA (eK .u64) 1 2) ((L.map setW).getD i (fun _ => 0))) = .p ((eA (eK .u64) 1 2) ((L.map setW).getD i (fun _ => 0))), ∀ i, i < A.length → D.p (eB (A.getD i false)) = .p (eB (A.getD i false)), ∀ i, i < Nx.length → D.p ((eL eI 1 0) (Nx.getD i [])) = .p ((eL eI 1 0) (Nx.getD i []))] [0, 1, 2, 3, 4, 5, 6] [2, 4, 10, 11, 12, 13, 14, 59, 60, 61] (al (fun _ _ => rfl) (al (fun _ _ => rfl) (al (fun _ _ => rfl) trivial))) hS
       ·intro z hz
        revert z; intro q hz
        have hz : (q ≤ (plOf (parseS s)).length) := hz
        have hi2_0 := hz
        refine tr_seq (q_t [2, 4, 10, 11, 12, 13, 14, 59, 60, 61, 62] [.ref 0 [], .p ((eL ePlace 3 dPlace) (plOf (parseS s))), .own 2, .own 3, .ref 4 [], vint .i64 (k : Int), vbool (acc (plOf (parseS s)) (L.getD k noSet) q), .p ((eL ePlace 3 dPlace) (plOf (parseS s))), vint .i64 (((plOf (parseS s)).length : Nat) : Int), vint .i64 (q : Int), vbool (decide ((q : Int) < (((plOf (parseS s)).length : Nat) : Int)))] [.box (.p (.agg [.v (.slice none 0 0), .v (.slice none 0 0)])), .box (.p ((eA (eK .u64) 1 2) (setW (startAt (stOf (parseS s)) n0)))), oL 67 (eA (eK .u64) 1 2) 2 (fun _ => 0) (L.map setW), .map (.arr 2 .u64) (mapK (L.map keyS)), .box (.agg [.own 5, .own 6]), oL 4 eB 1 false A, oL 22 (eL eI 1 0) 1 [] Nx] (tr_then (tr_seq (q_e ((q : Int) < (((plOf (parseS s)).length : Nat) : Int)) (fun hc5 => ?_) (fun hc5 => ?_)))))
        ·refine tr_skip (tr_then (tr_seq (tr_block (tr_seq (q_s [(0 : Int) ≤ (q : Int), (q : Int) < ((plOf (parseS s)).length : Int)] [2, 4, 10, 11, 12, 13, 14, 15, 16, 59, 60, 61] [.ref 0 [], .p ((eL ePlace 3 dPlace) (plOf (parseS s))), .own 2, .own 3, .ref 4 [], vint .i64 (k : Int), vbool (acc (plOf (parseS s)) (L.getD k noSet) q), vint .i64 (q : Int), .ref 7 [], .p ((eL ePlace 3 dPlace) (plOf (parseS s))), vint .i64 (((plOf (parseS s)).length : Nat) : Int), vint .i64 (q : Int)] [.box (.p (.agg [.v (.slice none 0 0), .v (.slice none 0 0)])), .box (.p ((eA (eK .u64) 1 2) (setW (startAt (stOf (parseS s)) n0)))), oL 67 (eA (eK .u64) 1 2) 2 (fun _ => 0) (L.map setW), .map (.arr 2 .u64) (mapK (L.map keyS)), .box (.agg [.own 5, .own 6]), oL 4 eB 1 false A, oL 22 (eL eI 1 0) 1 [] Nx, .box (.p (ePlace ((plOf (parseS s)).getD q dPlace)))] (al (by omega) (al (by omega) (trivial))) (tr_then (q_k [(!(acc (plOf (parseS s)) (L.getD k noSet) q)) = true → (!(acc (plOf (parseS s)) (L.getD k noSet) q)) = true, (!(acc (plOf (parseS s)) (L.getD k noSet) q)) = true → (!(acc (plOf (parseS s)) (L.getD k noSet) q)) = true, ((!(acc (plOf (parseS s)) (L.getD k noSet) q)) && (((plOf (parseS s)).getD q dPlace).fEnd)) = true → ((!(acc (plOf (parseS s)) (L.getD k noSet) q)) && (((plOf (parseS s)).getD q dPlace).fEnd)) = true, ((!(acc (plOf (parseS s)) (L.getD k noSet) q)) && (((plOf (parseS s)).getD q dPlace).fEnd)) = true → ((!(acc (plOf (parseS s)) (L.getD k noSet) q)) && (((plOf (parseS s)).getD q dPlace).fEnd)) = true, ((!(acc (plOf (parseS s)) (L.getD k noSet) q)) && (((plOf (parseS s)).getD q dPlace).fEnd)) = true → ((0 : Int) ≤ (k : Int)), ((!(acc (plOf (parseS s)) (L.getD k noSet) q)) && (((plOf (parseS s)).getD q dPlace).fEnd)) = true → ((k : Int) < ((L.map setW).length : Int)), ((!(acc (plOf (parseS s)) (L.getD k noSet) q)) && (((plOf (parseS s)).getD q dPlace).fEnd)) = true → ((!(acc (plOf (parseS s)) (L.getD k noSet) q)) && (((plOf (parseS s)).getD q dPlace).fEnd)) = true, ((!(acc (plOf (parseS s)) (L.getD k noSet) q)) && (((plOf (parseS s)).getD q dPlace).fEnd)) = true → (k < (L.map setW).length), ((!(acc (plOf (parseS s)) (L.getD k noSet) q)) && (((plOf (parseS s)).getD q dPlace).fEnd)) = true → ((.p ((eA (eK .u64) 1 2) ((L.map setW).getD k (fun _ => 0))) : D) = .p ((eA (eK .u64) 1 2) (setW (L.getD k noSet)))), ((!(acc (plOf (parseS s)) (L.getD k noSet) q)) && (((plOf (parseS s)).getD q dPlace).fEnd)) = true → ((!(acc (plOf (parseS s)) (L.getD k noSet) q)) && (((plOf (parseS s)).getD q dPlace).fEnd)) = true, ((!(acc (plOf (parseS s)) (L.getD k noSet) q)) && (((plOf (parseS s)).getD q dPlace).fEnd)) = true → ((!(acc (plOf (parseS s)) (L.getD k noSet) q)) && (((plOf (parseS s)).getD q dPlace).fEnd)) = true, ((!(acc (plOf (parseS s)) (L.getD k noSet) q)) && (((plOf (parseS s)).getD q dPlace).fEnd)) = true → (Pure Try.prog 34 [(eA (eK .u64) 1 2) (setW (L.getD k noSet)), .v (.int .i64 (q : Int))] (vbool ((L.getD k noSet) q))), (!(acc (plOf (parseS s)) (L.getD k noSet) q)) = true → ((!(acc (plOf (parseS s)) (L.getD k noSet) q)) = true → (!(acc (plOf (parseS s)) (L.getD k noSet) q)) = true), ((!(acc (plOf (parseS s)) (L.getD k noSet) q)) && (((plOf (parseS s)).getD q dPlace).fEnd)) = true → ((!(acc (plOf (parseS s)) (L.getD k noSet) q)) && (((plOf (parseS s)).getD q dPlace).fEnd)) = true, (!(acc (plOf (parseS s)) (L.getD k noSet) q)) = true → (!(acc (plOf (parseS s)) (L.getD k noSet) q)) = true] [2, 4, 10, 11, 12, 13, 14, 59, 60, 61] [.ref 0 [], .p ((eL ePlace 3 dPlace) (plOf (parseS s))), .own 2, .own 3, .ref 4 [], vint .i64 (k : Int), vbool ((acc (plOf (parseS s)) (L.getD k noSet) q) || ((((plOf (parseS s)).getD q dPlace).fEnd) && ((L.getD k noSet) q))), .p ((eL ePlace 3 dPlace) (plOf (parseS s))), vint .i64 (((plOf (parseS s)).length : Nat) : Int), vint .i64 (q : Int)] [(8, .p ((eA (eK .u64) 1 2) (setW (L.getD k noSet))))] [(10, vbool ((L.getD k noSet) q))] (al id (al id (al id (al id (al (by omega) (al (by omega) (al id (al (by omega) (al (by simp_all; done) (al id (al id (al (by intro _; exact setHas_ok _ _ (by omega)) (al (by intro _; exact id) (al id (al id (trivial)))))))))))))))) (in_n (tr_then (q_k [(IntKind.wrap .i64 ((q : Int) + 1)) = (((q + 1) : Nat) : Int)] [2, 4, 10, 11, 12, 13, 14, 59, 60, 61] [.ref 0 [], .p ((eL ePlace 3 dPlace) (plOf (parseS s))), .own 2, .own 3, .ref 4 [], vint .i64 (k : Int), vbool ((acc (plOf (parseS s)) (L.getD k noSet) q) || ((((plOf (parseS s)).getD q dPlace).fEnd) && ((L.getD k noSet) q))), .p ((eL ePlace 3 dPlace) (plOf (parseS s))), vint .i64 (((plOf (parseS s)).length : Nat) : Int), vint .i64 (((q + 1) : Nat) : Int)] [(0, vint .i64 (((q + 1) : Nat) : Int))] [] (al (wr64 (by omega) (by omega) (by omega)) (trivial)) (lp_end (q + 1) ?_ ?_ ?_)))))))))))
         ·show ((q + 1) ≤ (plOf (parseS s)).length)
          ·omega
         ·show (plOf (parseS s)).length - (q + 1) < (plOf (parseS s)).length - q
          omega
         ·intro A_ W_ hS
          replace hS := q_a (d := vbool ((acc (plOf (parseS s)) (L.getD k noSet) q) || ((((plOf (parseS s)).getD q dPlace).fEnd) && ((L.getD k noSet) q)))) 14 (vbool (acc (plOf (parseS s)) (L.getD k noSet) (q + 1))) (eqD_bool (by rfl)) hS
          exact q_v [∀ i, i < (L.map setW).length → D.p ((eA (eK .u64) 1 2) ((L.map setW).getD i (fun _ => 0))) = .p ((eA (eK .u64) 1 2) ((L.map setW).getD i (fun _ => 0))), ∀ i, i < A.length → D.p (eB (A.getD i false)) = .p (eB (A.getD i false)), ∀ i, i < Nx.length → D.p ((eL eI 1 0) (Nx.getD i [])) = .p ((eL eI 1 0) (Nx.getD i []))] [0, 1, 2, 3, 4, 5, 6] [2, 4, 10, 11, 12, 13, 14, 59, 60, 61] (al (fun _ _ => rfl) (al (fun _ _ => rfl) (al (fun _ _ => rfl) trivial))) hS
        ·refine tr_exit (th_e (th_e (in_hit (tr_then (tr_seq (q_s [(0 : Int) ≤ 37, (37 : Int) ≤ 37, (8 : Int) * 37 ≤ 140737488355328, (37 : Int) ≤ 9223372036854775807] [2, 4, 10, 11, 12, 13, 14, 17] [.ref 0 [], .p ((eL ePlace 3 dPlace) (plOf (parseS s))), .own 2, .own 3, .ref 4 [], vint .i64 (k : Int), vbool (acc (plOf (parseS s)) (L.getD k noSet) q), .own 7] [.box (.p (.agg [.v (.slice none 0 0), .v (.slice none 0 0)])), .box (.p ((eA (eK .u64) 1 2) (setW (startAt (stOf (parseS s)) n0)))), oL 67 (eA (eK .u64) 1 2) 2 (fun _ => 0) (L.map setW), .map (.arr 2 .u64) (mapK (L.map keyS)), .box (.agg [.own 5, .own 6]), oL 4 eB 1 false A, oL 22 (eL eI 1 0) 1 [] Nx, .arr 3 1 37 (fun _ => vint .i64 0)] (al (by omega) (al (by omega) (al (by omega) (al (by omega) (trivial))))) (nm_pre (E' := [(2, none, .ref 0 []), (4, none, .p ((eL ePlace 3 dPlace) (plOf (parseS s)))), (10, none, .own 2), (11, none, .own 3), (12, none, .ref 4 []), (13, none, vint .i64 (k : Int)), (14, none, vbool (acc (plOf (parseS s)) (L.getD k noSet) q)), (17, none, .own 7)]) (H' := [.box (.p (.agg [.v (.slice none 0 0), .v (.slice none 0 0)])), .box (.p ((eA (eK .u64) 1 2) (setW (startAt (stOf (parseS s)) n0)))), oL 67 (eA (eK .u64) 1 2) 2 (fun _ => 0) (L.map setW), .map (.arr 2 .u64) (mapK (L.map keyS)), .box (.agg [.own 5, .own 6]), oL 4 eB 1 false A, oL 22 (eL eI 1 0) 1 [] Nx, oL 3 eI 1 0 (List.replicate 37 0)]) (fun _ _ => sl_arr (n := 37) (n' := (List.replicate 37 0).length) (f := fun _ => vint .i64 0) 7 (fun i => .p (eI ((List.replicate 37 0).getD i 0))) (by kernel_rfl) (by simp) (by exact makeN (e := eI) (d := 0))) (tr_then (tr_seq (tr_seq (q_k [(((List.replicate 37 0).length : Nat) : Int) = 37] [2, 4, 10, 11, 12, 13, 14, 17, 82, 83] [.ref 0 [], .p ((eL ePlace 3 dPlace) (plOf (parseS s))), .own 2, .own 3, .ref 4 [], vint .i64 (k : Int), vbool (acc (plOf (parseS s)) (L.getD k noSet) q), .own 7, vint .i64 37, vint .i64 0] [(1, vint .i64 37)] [] (al (by rfl) (trivial)) (tr_then (tr_block (tr_loop (α := Nat) (fun z : Nat => (fun (c : Nat) => [(2, none, .ref 0 []), (4, none, .p ((eL ePlace 3 dPlace) (plOf (parseS s)))), (10, none, .own 2), (11, none, .own 3), (12, none, .ref 4 []), (13, none, vint .i64 (k : Int)), (14, none, vbool (acc (plOf (parseS s)) (L.getD k noSet) q)), (17, none, .own 7), (82, none, vint .i64 37), (83, none, vint .i64 (c : Int))]) z) (fun z : Nat => (fun (c : Nat) => [.box (.p (.agg [.v (.slice none 0 0), .v (.slice none 0 0)])), .box (.p ((eA (eK .u64) 1 2) (setW (startAt (stOf (parseS s)) n0)))), oL 67 (eA (eK .u64) 1 2) 2 (fun _ => 0) ((rowAt (plOf (parseS s)) (L.getD k noSet) L c).1.map setW), .map (.arr 2 .u64) (mapK ((rowAt (plOf (parseS s)) (L.getD k noSet) L c).1.map keyS)), .box (.agg [.own 5, .own 6]), oL 4 eB 1 false A, oL 22 (eL eI 1 0) 1 [] Nx, oL 3 eI 1 0 (rowL (plOf (parseS s)) (L.getD k noSet) L c)]) z) (fun z : Nat => (fun (c : Nat) => (c ≤ 37)) z) (fun z : Nat => (fun (c : Nat) => 37 - c) z) 0 ?_ ?_ ?_))))))))))))))
         ·show (0 ≤ 37)
          ·omega
         ·intro A_ W_ hS
          replace hS := q_a (d := vint .i64 0) 83 (vint .i64 ((0 : Nat) : Int)) (eqD_int (by omega)) hS
          replace hS := sl_obj (o := .map (.arr 2 .u64) (mapK (L.map keyS))) 3 (.map (.arr 2 .u64) (mapK ((rowAt (plOf (parseS s)) (L.getD k noSet) L 0).1.map keyS))) (by kernel_rfl) (congrArg (O.map (.arr 2 .u64)) (a₁ := (mapK (L.map keyS))) (a₂ := (mapK ((rowAt (plOf (parseS s)) (L.getD k noSet) L 0).1.map keyS))) (by rfl)) hS
          replace hS := sl_arr (e := 67) (sz := 2) (n := (L.map setW).length) (n' := ((rowAt (plOf (parseS s)) (L.getD k noSet) L 0).1.map setW).length) (f := (fun i => .p ((eA (eK .u64) 1 2) ((L.map setW).getD i (fun _ => 0))))) 2 (fun i => .p ((eA (eK .u64) 1 2) (((rowAt (plOf (parseS s)) (L.getD k noSet) L 0).1.map setW).getD i (fun _ => 0)))) (by kernel_rfl) (by rfl) (by intro j hj; rfl) hS
          replace hS := sl_arr (e := 3) (sz := 1) (n := (List.replicate 37 0).length) (n' := (rowL (plOf (parseS s)) (L.getD k noSet) L 0).length) (f := (fun i => .p (eI ((List.replicate 37 0).getD i 0)))) 7 (fun i => .p (eI ((rowL (plOf (parseS s)) (L.getD k noSet) L 0).getD i 0))) (by kernel_rfl) (by rfl) (by intro j hj; rfl) hS
          exact q_v [∀ i, i < ((rowAt (plOf (parseS s)) (L.getD k noSet) L 0).1.map setW).length → D.p ((eA (eK .u64) 1 2) (((rowAt (plOf (parseS s)) (L.getD k noSet) L 0).1.map setW).getD i (fun _ => 0))) = .p ((eA (eK .u64) 1 2) (((rowAt (plOf (parseS s)) (L.getD k noSet) L 0).1.map setW).getD i (fun _ => 0))), ∀ i, i < A.length → D.p (eB (A.getD i false)) = .p (eB (A.getD i false)), ∀ i, i < Nx.length → D.p ((eL eI 1 0) (Nx.getD i [])) = .p ((eL eI 1 0) (Nx.getD i [])), ∀ i, i < (rowL (plOf (parseS s)) (L.getD k noSet) L 0).length → D.p (eI ((rowL (plOf (parseS s)) (L.getD k noSet) L 0).getD i 0)) = .p (eI ((rowL (plOf (parseS s)) (L.getD k noSet) L 0).getD i 0))] [0, 1, 2, 3, 4, 5, 6, 7] [2, 4, 10, 11, 12, 13, 14, 17, 82, 83] (al (fun _ _ => rfl) (al (fun _ _ => rfl) (al (fun _ _ => rfl) (al (fun _ _ => rfl) trivial)))) hS
         ·intro z hz
          revert z; intro c hz
          have hz : (c ≤ 37) := hz
          have hi3_0 := hz
          have hrc := rowAt_len (ps := (plOf (parseS s))) (S := L.getD k noSet) (L := L) (c := c)
          have hg := rowAt_get (ps := (plOf (parseS s))) (S := L.getD k noSet) (L := L) (c := c) (k := k)
          have hlc : ((rowAt (plOf (parseS s)) (L.getD k noSet) L c).1.map setW).length = (rowAt (plOf (parseS s)) (L.getD k noSet) L c).1.length := List.length_map ..
          have hrl := rowL_len (ps := (plOf (parseS s))) (S := L.getD k noSet) (L := L) (c := c)
          refine tr_seq (q_t [2, 4, 10, 11, 12, 13, 14, 17, 82, 83, 84] [.ref 0 [], .p ((eL ePlace 3 dPlace) (plOf (parseS s))), .own 2, .own 3, .ref 4 [], vint .i64 (k : Int), vbool (acc (plOf (parseS s)) (L.getD k noSet) q), .own 7, vint .i64 37, vint .i64 (c : Int), vbool (decide ((c : Int) < 37))] [.box (.p (.agg [.v (.slice none 0 0), .v (.slice none 0 0)])), .box (.p ((eA (eK .u64) 1 2) (setW (startAt (stOf (parseS s)) n0)))), oL 67 (eA (eK .u64) 1 2) 2 (fun _ => 0) ((rowAt (plOf (parseS s)) (L.getD k noSet) L c).1.map setW), .map (.arr 2 .u64) (mapK ((rowAt (plOf (parseS s)) (L.getD k noSet) L c).1.map keyS)), .box (.agg [.own 5, .own 6]), oL 4 eB 1 false A, oL 22 (eL eI 1 0) 1 [] Nx, oL 3 eI 1 0 (rowL (plOf (parseS s)) (L.getD k noSet) L c)] (tr_then (tr_seq (q_e ((c : Int) < 37) (fun hc6 => ?_) (fun hc6 => ?_)))))
          ·refine tr_skip (tr_then (tr_seq (tr_block (tr_seq (q_m [2, 4, 10, 11, 12, 13, 14, 17, 18, 82, 83] [.ref 0 [], .p ((eL ePlace 3 dPlace) (plOf (parseS s))), .own 2, .own 3, .ref 4 [], vint .i64 (k : Int), vbool (acc (plOf (parseS s)) (L.getD k noSet) q), .own 7, vint .i64 (c : Int), vint .i64 37, vint .i64 (c : Int)] (tr_then (tr_seq (q_r [(0 : Int) ≤ (k : Int), (k : Int) < (((rowAt (plOf (parseS s)) (L.getD k noSet) L c).1.map setW).length : Int), k < ((rowAt (plOf (parseS s)) (L.getD k noSet) L c).1.map setW).length, (.p ((eA (eK .u64) 1 2) (((rowAt (plOf (parseS s)) (L.getD k noSet) L c).1.map setW).getD k (fun _ => 0))) : D) = .p ((eA (eK .u64) 1 2) (setW (L.getD k noSet))), Pure Try.prog 35 [(eL ePlace 3 dPlace) (plOf (parseS s)), (eA (eK .u64) 1 2) (setW (L.getD k noSet)), .v (.int .i64 (c : Int))] (.p ((eA (eK .u64) 1 2) (setW (stepS (plOf (parseS s)) (L.getD k noSet) (c : Int)))))] [2, 4, 10, 11, 12, 13, 14, 17, 18, 19, 82, 83] [.ref 0 [], .p ((eL ePlace 3 dPlace) (plOf (parseS s))), .own 2, .own 3, .ref 4 [], vint .i64 (k : Int), vbool (acc (plOf (parseS s)) (L.getD k noSet) q), .own 7, vint .i64 (c : Int), .ref 8 [], vint .i64 37, vint .i64 (c : Int)] [.box (.p (.agg [.v (.slice none 0 0), .v (.slice none 0 0)])), .box (.p ((eA (eK .u64) 1 2) (setW (startAt (stOf (parseS s)) n0)))), oL 67 (eA (eK .u64) 1 2) 2 (fun _ => 0) ((rowAt (plOf (parseS s)) (L.getD k noSet) L c).1.map setW), .map (.arr 2 .u64) (mapK ((rowAt (plOf (parseS s)) (L.getD k noSet) L c).1.map keyS)), .box (.agg [.own 5, .own 6]), oL 4 eB 1 false A, oL 22 (eL eI 1 0) 1 [] Nx, oL 3 eI 1 0 (rowL (plOf (parseS s)) (L.getD k noSet) L c), .box (.p ((eA (eK .u64) 1 2) (setW (stepS (plOf (parseS s)) (L.getD k noSet) (c : Int)))))] [(4, .p ((eA (eK .u64) 1 2) (setW (L.getD k noSet))))] [(6, .p ((eA (eK .u64) 1 2) (setW (stepS (plOf (parseS s)) (L.getD k noSet) (c : Int)))))] (al (by omega) (al (by omega) (al (by omega) (al (by grind) (al (step_ok _ _ _ (by omega) (by omega)) (trivial)))))) (tr_then (tr_seq (q_k [eqD (.p (((mapK ((rowAt (plOf (parseS s)) (L.getD k noSet) L c).1.map keyS)) ([(setW (stepS (plOf (parseS s)) (L.getD k noSet) (c : Int))) 0, (setW (stepS (plOf (parseS s)) (L.getD k noSet) (c : Int))) 1] : List Int)).getD (.v (.int .i64 0)))) (vint .i64 (idxV (stepS (plOf (parseS s)) (L.getD k noSet) c) (rowAt (plOf (parseS s)) (L.getD k noSet) L c).1)), (((mapK ((rowAt (plOf (parseS s)) (L.getD k noSet) L c).1.map keyS)) ([(setW (stepS (plOf (parseS s)) (L.getD k noSet) (c : Int))) 0, (setW (stepS (plOf (parseS s)) (L.getD k noSet) (c : Int))) 1] : List Int)).isSome) = ((idx (stepS (plOf (parseS s)) (L.getD k noSet) c) (rowAt (plOf (parseS s)) (L.getD k noSet) L c).1 0).isSome)] [2, 4, 10, 11, 12, 13, 14, 17, 18, 19, 20, 21, 82, 83] [.ref 0 [], .p ((eL ePlace 3 dPlace) (plOf (parseS s))), .own 2, .own 3, .ref 4 [], vint .i64 (k : Int), vbool (acc (plOf (parseS s)) (L.getD k noSet) q), .own 7, vint .i64 (c : Int), .ref 8 [], vint .i64 (idxV (stepS (plOf (parseS s)) (L.getD k noSet) c) (rowAt (plOf (parseS s)) (L.getD k noSet) L c).1), vbool ((idx (stepS (plOf (parseS s)) (L.getD k noSet) c) (rowAt (plOf (parseS s)) (L.getD k noSet) L c).1 0).isSome), vint .i64 37, vint .i64 (c : Int)] [(4, vint .i64 (idxV (stepS (plOf (parseS s)) (L.getD k noSet) c) (rowAt (plOf (parseS s)) (L.getD k noSet) L c).1)), (5, vbool ((idx (stepS (plOf (parseS s)) (L.getD k noSet) c) (rowAt (plOf (parseS s)) (L.getD k noSet) L c).1 0).isSome))] [] (al (look_v _ _) (al (look_b _ _) (trivial))) (tr_then (tr_join (α := Unit) (fun z : Unit => [(2, none, .ref 0 []), (4, none, .p ((eL ePlace 3 dPlace) (plOf (parseS s)))), (10, none, .own 2), (11, none, .own 3), (12, none, .ref 4 []), (13, none, vint .i64 (k : Int)), (14, none, vbool (acc (plOf (parseS s)) (L.getD k noSet) q)), (17, none, .own 7), (18, none, vint .i64 (c : Int)), (20, none, vint .i64 (atS (plOf (parseS s)) (L.getD k noSet) L c)), (82, none, vint .i64 37), (83, none, vint .i64 (c : Int))]) (fun z : Unit => [.box (.p (.agg [.v (.slice none 0 0), .v (.slice none 0 0)])), .box (.p ((eA (eK .u64) 1 2) (setW (startAt (stOf (parseS s)) n0)))), oL 67 (eA (eK .u64) 1 2) 2 (fun _ => 0) ((rowAt (plOf (parseS s)) (L.getD k noSet) L (c + 1)).1.map setW), .map (.arr 2 .u64) (mapK ((rowAt (plOf (parseS s)) (L.getD k noSet) L (c + 1)).1.map keyS)), .box (.agg [.own 5, .own 6]), oL 4 eB 1 false A, oL 22 (eL eI 1 0) 1 [] Nx, oL 3 eI 1 0 (rowL (plOf (parseS s)) (L.getD k noSet) L c), .box (.p ((eA (eK .u64) 1 2) (setW (stepS (plOf (parseS s)) (L.getD k noSet) (c : Int)))))]) (fun z : Unit => True) ?_ ?_)))))))))))))
           ·intro z hz
            refine q_s [(0 : Int) ≤ (c : Int), (c : Int) < ((rowL (plOf (parseS s)) (L.getD k noSet) L c).length : Int), c < (rowL (plOf (parseS s)) (L.getD k noSet) L c).length] [2, 4, 10, 11, 12, 13, 14, 17, 82, 83] [.ref 0 [], .p ((eL ePlace 3 dPlace) (plOf (parseS s))), .own 2, .own 3, .ref 4 [], vint .i64 (k : Int), vbool (acc (plOf (parseS s)) (L.getD k noSet) q), .own 7, vint .i64 37, vint .i64 (c : Int)] [.box (.p (.agg [.v (.slice none 0 0), .v (.slice none 0 0)])), .box (.p ((eA (eK .u64) 1 2) (setW (startAt (stOf (parseS s)) n0)))), oL 67 (eA (eK .u64) 1 2) 2 (fun _ => 0) ((rowAt (plOf (parseS s)) (L.getD k noSet) L (c + 1)).1.map setW), .map (.arr 2 .u64) (mapK ((rowAt (plOf (parseS s)) (L.getD k noSet) L (c + 1)).1.map keyS)), .box (.agg [.own 5, .own 6]), oL 4 eB 1 false A, oL 22 (eL eI 1 0) 1 [] Nx, .arr 3 1 ((rowL (plOf (parseS s)) (L.getD k noSet) L c).length) (upd (fun i => .p (eI ((rowL (plOf (parseS s)) (L.getD k noSet) L c).getD i 0))) c (vint .i64 (atS (plOf (parseS s)) (L.getD k noSet) L c))), .box (.p ((eA (eK .u64) 1 2) (setW (stepS (plOf (parseS s)) (L.getD k noSet) (c : Int)))))] (al (by omega) (al (by omega) (al (by omega) (trivial)))) (nm_pre (E' := [(2, none, .ref 0 []), (4, none, .p ((eL ePlace 3 dPlace) (plOf (parseS s)))), (10, none, .own 2), (11, none, .own 3), (12, none, .ref 4 []), (13, none, vint .i64 (k : Int)), (14, none, vbool (acc (plOf (parseS s)) (L.getD k noSet) q)), (17, none, .own 7), (82, none, vint .i64 37), (83, none, vint .i64 (c : Int))]) (H' := [.box (.p (.agg [.v (.slice none 0 0), .v (.slice none 0 0)])), .box (.p ((eA (eK .u64) 1 2) (setW (startAt (stOf (parseS s)) n0)))), oL 67 (eA (eK .u64) 1 2) 2 (fun _ => 0) ((rowAt (plOf (parseS s)) (L.getD k noSet) L (c + 1)).1.map setW), .map (.arr 2 .u64) (mapK ((rowAt (plOf (parseS s)) (L.getD k noSet) L (c + 1)).1.map keyS)), .box (.agg [.own 5, .own 6]), oL 4 eB 1 false A, oL 22 (eL eI 1 0) 1 [] Nx, oL 3 eI 1 0 ((rowL (plOf (parseS s)) (L.getD k noSet) L c).set c (atS (plOf (parseS s)) (L.getD k noSet) L c)), .box (.p ((eA (eK .u64) 1 2) (setW (stepS (plOf (parseS s)) (L.getD k noSet) (c : Int)))))]) (fun _ _ => sl_arr (n := ((rowL (plOf (parseS s)) (L.getD k noSet) L c).length)) (n' := ((rowL (plOf (parseS s)) (L.getD k noSet) L c).set c (atS (plOf (parseS s)) (L.getD k noSet) L c)).length) (f := upd (fun i => .p (eI ((rowL (plOf (parseS s)) (L.getD k noSet) L c).getD i 0))) c (vint .i64 (atS (plOf (parseS s)) (L.getD k noSet) L c))) 7 (fun i => .p (eI (((rowL (plOf (parseS s)) (L.getD k noSet) L c).set c (atS (plOf (parseS s)) (L.getD k noSet) L c)).getD i 0))) (by kernel_rfl) (by simp) (by exact setN)) (in_n (tr_then (q_k [(IntKind.wrap .i64 ((c : Int) + 1)) = (((c + 1) : Nat) : Int)] [2, 4, 10, 11, 12, 13, 14, 17, 82, 83] [.ref 0 [], .p ((eL ePlace 3 dPlace) (plOf (parseS s))), .own 2, .own 3, .ref 4 [], vint .i64 (k : Int), vbool (acc (plOf (parseS s)) (L.getD k noSet) q), .own 7, vint .i64 37, vint .i64 (((c + 1) : Nat) : Int)] [(0, vint .i64 (((c + 1) : Nat) : Int))] [] (al (wr64 (by omega) (by omega) (by omega)) (trivial)) (lp_end (c + 1) ?_ ?_ ?_)))))
            ·show ((c + 1) ≤ 37)
             ·omega
            ·show 37 - (c + 1) < 37 - c
             omega
            ·intro A_ W_ hS
             replace hS := sl_arr (e := 3) (sz := 1) (n := ((rowL (plOf (parseS s)) (L.getD k noSet) L c).set c (atS (plOf (parseS s)) (L.getD k noSet) L c)).length) (n' := (rowL (plOf (parseS s)) (L.getD k noSet) L (c + 1)).length) (f := (fun i => .p (eI (((rowL (plOf (parseS s)) (L.getD k noSet) L c).set c (atS (plOf (parseS s)) (L.getD k noSet) L c)).getD i 0)))) 7 (fun i => .p (eI ((rowL (plOf (parseS s)) (L.getD k noSet) L (c + 1)).getD i 0))) (by kernel_rfl) (by rw [row_set (by omega)]) (by intro j hj; rw [row_set (by omega)]) hS
             exact q_v [∀ i, i < ((rowAt (plOf (parseS s)) (L.getD k noSet) L (c + 1)).1.map setW).length → D.p ((eA (eK .u64) 1 2) (((rowAt (plOf (parseS s)) (L.getD k noSet) L (c + 1)).1.map setW).getD i (fun _ => 0))) = .p ((eA (eK .u64) 1 2) (((rowAt (plOf (parseS s)) (L.getD k noSet) L (c + 1)).1.map setW).getD i (fun _ => 0))), ∀ i, i < A.length → D.p (eB (A.getD i false)) = .p (eB (A.getD i false)), ∀ i, i < Nx.length → D.p ((eL eI 1 0) (Nx.getD i [])) = .p ((eL eI 1 0) (Nx.getD i [])), ∀ i, i < (rowL (plOf (parseS s)) (L.getD k noSet) L (c + 1)).length → D.p (eI ((rowL (plOf (parseS s)) (L.getD k noSet) L (c + 1)).getD i 0)) = .p (eI ((rowL (plOf (parseS s)) (L.getD k noSet) L (c + 1)).getD i 0))] [0, 1, 2, 3, 4, 5, 6, 7] [2, 4, 10, 11, 12, 13, 14, 17, 82, 83] (al (fun _ _ => rfl) (al (fun _ _ => rfl) (al (fun _ _ => rfl) (al (fun _ _ => rfl) trivial)))) hS
           ·refine tr_seq (q_t [2, 4, 10, 11, 12, 13, 14, 17, 18, 19, 20, 21, 82, 83, 101] [.ref 0 [], .p ((eL ePlace 3 dPlace) (plOf (parseS s))), .own 2, .own 3, .ref 4 [], vint .i64 (k : Int), vbool (acc (plOf (parseS s)) (L.getD k noSet) q), .own 7, vint .i64 (c : Int), .ref 8 [], vint .i64 (idxV (stepS (plOf (parseS s)) (L.getD k noSet) c) (rowAt (plOf (parseS s)) (L.getD k noSet) L c).1), vbool ((idx (stepS (plOf (parseS s)) (L.getD k noSet) c) (rowAt (plOf (parseS s)) (L.getD k noSet) L c).1 0).isSome), vint .i64 37, vint .i64 (c : Int), vbool (decide (([(setW (stepS (plOf (parseS s)) (L.getD k noSet) (c : Int))) 0, (setW (stepS (plOf (parseS s)) (L.getD k noSet) (c : Int))) 1] : List Int) = ([0, 0] : List Int)))] [.box (.p (.agg [.v (.slice none 0 0), .v (.slice none 0 0)])), .box (.p ((eA (eK .u64) 1 2) (setW (startAt (stOf (parseS s)) n0)))), oL 67 (eA (eK .u64) 1 2) 2 (fun _ => 0) ((rowAt (plOf (parseS s)) (L.getD k noSet) L c).1.map setW), .map (.arr 2 .u64) (mapK ((rowAt (plOf (parseS s)) (L.getD k noSet) L c).1.map keyS)), .box (.agg [.own 5, .own 6]), oL 4 eB 1 false A, oL 22 (eL eI 1 0) 1 [] Nx, oL 3 eI 1 0 (rowL (plOf (parseS s)) (L.getD k noSet) L c), .box (.p ((eA (eK .u64) 1 2) (setW (stepS (plOf (parseS s)) (L.getD k noSet) (c : Int)))))] (tr_then (q_e (([(setW (stepS (plOf (parseS s)) (L.getD k noSet) (c : Int))) 0, (setW (stepS (plOf (parseS s)) (L.getD k noSet) (c : Int))) 1] : List Int) = ([0, 0] : List Int)) (fun hc7 => ?_) (fun hc7 => ?_))))
            ·refine q_m [2, 4, 10, 11, 12, 13, 14, 17, 18, 20, 82, 83] [.ref 0 [], .p ((eL ePlace 3 dPlace) (plOf (parseS s))), .own 2, .own 3, .ref 4 [], vint .i64 (k : Int), vbool (acc (plOf (parseS s)) (L.getD k noSet) q), .own 7, vint .i64 (c : Int), vint .i64 (-1), vint .i64 37, vint .i64 (c : Int)] (jn_end () ?_ ?_)
             ·exact trivial
             ·intro A_ W_ hS
              replace hS := q_a (d := vint .i64 (-1)) 20 (vint .i64 (atS (plOf (parseS s)) (L.getD k noSet) L c)) (eqD_int (by first | exact (rowAt_0 hc7).2.symm | (rw [(rowAt_n hc7 hc8).2.1, List.length_map]) | exact (rowAt_i hc7 (eq_true_of_ne_false hc8)).2.symm)) hS
              replace hS := sl_obj (o := .map (.arr 2 .u64) (mapK ((rowAt (plOf (parseS s)) (L.getD k noSet) L c).1.map keyS))) 3 (.map (.arr 2 .u64) (mapK ((rowAt (plOf (parseS s)) (L.getD k noSet) L (c + 1)).1.map keyS))) (by kernel_rfl) (congrArg (O.map (.arr 2 .u64)) (a₁ := (mapK ((rowAt (plOf (parseS s)) (L.getD k noSet) L c).1.map keyS))) (a₂ := (mapK ((rowAt (plOf (parseS s)) (L.getD k noSet) L (c + 1)).1.map keyS))) (by first | (rw [(rowAt_0 hc7).1]) | (rw [(rowAt_n hc7 hc8).1, List.length_map]; exact mapK_next (rowAt_n hc7 hc8).2.2) | (rw [(rowAt_i hc7 (eq_true_of_ne_false hc8)).1]))) hS
              replace hS := sl_arr (e := 67) (sz := 2) (n := ((rowAt (plOf (parseS s)) (L.getD k noSet) L c).1.map setW).length) (n' := ((rowAt (plOf (parseS s)) (L.getD k noSet) L (c + 1)).1.map setW).length) (f := (fun i => .p ((eA (eK .u64) 1 2) (((rowAt (plOf (parseS s)) (L.getD k noSet) L c).1.map setW).getD i (fun _ => 0))))) 2 (fun i => .p ((eA (eK .u64) 1 2) (((rowAt (plOf (parseS s)) (L.getD k noSet) L (c + 1)).1.map setW).getD i (fun _ => 0)))) (by kernel_rfl) (by first | (rw [(rowAt_0 hc7).1]) | (rw [(rowAt_n hc7 hc8).1, List.map_append]; rfl) | (rw [(rowAt_i hc7 (eq_true_of_ne_false hc8)).1])) (by intro j hj; first | (rw [(rowAt_0 hc7).1]; done) | (rw [(rowAt_n hc7 hc8).1, List.map_append]; done) | (rw [(rowAt_n hc7 hc8).1, List.map_append]; rfl) | (rw [(rowAt_i hc7 (eq_true_of_ne_false hc8)).1])) hS
              exact q_v [∀ i, i < ((rowAt (plOf (parseS s)) (L.getD k noSet) L (c + 1)).1.map setW).length → D.p ((eA (eK .u64) 1 2) (((rowAt (plOf (parseS s)) (L.getD k noSet) L (c + 1)).1.map setW).getD i (fun _ => 0))) = .p ((eA (eK .u64) 1 2) (((rowAt (plOf (parseS s)) (L.getD k noSet) L (c + 1)).1.map setW).getD i (fun _ => 0))), ∀ i, i < A.length → D.p (eB (A.getD i false)) = .p (eB (A.getD i false)), ∀ i, i < Nx.length → D.p ((eL eI 1 0) (Nx.getD i [])) = .p ((eL eI 1 0) (Nx.getD i [])), ∀ i, i < (rowL (plOf (parseS s)) (L.getD k noSet) L c).length → D.p (eI ((rowL (plOf (parseS s)) (L.getD k noSet) L c).getD i 0)) = .p (eI ((rowL (plOf (parseS s)) (L.getD k noSet) L c).getD i 0))] [0, 1, 2, 3, 4, 5, 6, 7, 8] [2, 4, 10, 11, 12, 13, 14, 17, 18, 20, 82, 83] (al (fun _ _ => rfl) (al (fun _ _ => rfl) (al (fun _ _ => rfl) (al (fun _ _ => rfl) trivial)))) hS
            ·refine tr_seq (q_m [2, 4, 10, 11, 12, 13, 14, 17, 18, 19, 20, 82, 83, 103] [.ref 0 [], .p ((eL ePlace 3 dPlace) (plOf (parseS s))), .own 2, .own 3, .ref 4 [], vint .i64 (k : Int), vbool (acc (plOf (parseS s)) (L.getD k noSet) q), .own 7, vint .i64 (c : Int), .ref 8 [], vint .i64 (idxV (stepS (plOf (parseS s)) (L.getD k noSet) c) (rowAt (plOf (parseS s)) (L.getD k noSet) L c).1), vint .i64 37, vint .i64 (c : Int), vbool (!((idx (stepS (plOf (parseS s)) (L.getD k noSet) c) (rowAt (plOf (parseS s)) (L.getD k noSet) L c).1 0).isSome))] (tr_then (q_c (!((idx (stepS (plOf (parseS s)) (L.getD k noSet) c) (rowAt (plOf (parseS s)) (L.getD k noSet) L c).1 0).isSome)) (((idx (stepS (plOf (parseS s)) (L.getD k noSet) c) (rowAt (plOf (parseS s)) (L.getD k noSet) L c).1 0).isSome) = false) (fun hc8 => ?_) (fun hc8 => ?_))))
             ·refine tr_seq (q_m [2, 4, 10, 11, 12, 13, 14, 17, 18, 19, 20, 82, 83] [.ref 0 [], .p ((eL ePlace 3 dPlace) (plOf (parseS s))), .own 2, .own 3, .ref 4 [], vint .i64 (k : Int), vbool (acc (plOf (parseS s)) (L.getD k noSet) q), .own 7, vint .i64 (c : Int), .ref 8 [], vint .i64 ((((rowAt (plOf (parseS s)) (L.getD k noSet) L c).1.map setW).length : Nat) : Int), vint .i64 37, vint .i64 (c : Int)] (tr_then (tr_seq (q_t [2, 4, 10, 11, 12, 13, 14, 17, 18, 19, 20, 82, 83] [.ref 0 [], .p ((eL ePlace 3 dPlace) (plOf (parseS s))), .own 2, .own 3, .ref 4 [], vint .i64 (k : Int), vbool (acc (plOf (parseS s)) (L.getD k noSet) q), .own 7, vint .i64 (c : Int), .ref 8 [], vint .i64 ((((rowAt (plOf (parseS s)) (L.getD k noSet) L c).1.map setW).length : Nat) : Int), vint .i64 37, vint .i64 (c : Int)] [.box (.p (.agg [.v (.slice none 0 0), .v (.slice none 0 0)])), .box (.p ((eA (eK .u64) 1 2) (setW (startAt (stOf (parseS s)) n0)))), oL 67 (eA (eK .u64) 1 2) 2 (fun _ => 0) ((rowAt (plOf (parseS s)) (L.getD k noSet) L c).1.map setW), .map (.arr 2 .u64) (setMap (mapK ((rowAt (plOf (parseS s)) (L.getD k noSet) L c).1.map keyS)) ([(setW (stepS (plOf (parseS s)) (L.getD k noSet) (c : Int))) 0, (setW (stepS (plOf (parseS s)) (L.getD k noSet) (c : Int))) 1] : List Int) (.v (.int .i64 ((((rowAt (plOf (parseS s)) (L.getD k noSet) L c).1.map setW).length : Nat) : Int)))), .box (.agg [.own 5, .own 6]), oL 4 eB 1 false A, oL 22 (eL eI 1 0) 1 [] Nx, oL 3 eI 1 0 (rowL (plOf (parseS s)) (L.getD k noSet) L c), .box (.p ((eA (eK .u64) 1 2) (setW (stepS (plOf (parseS s)) (L.getD k noSet) (c : Int)))))] (tr_then (q_r [∀ j, j < 1 → ([(eA (eK .u64) 1 2) (setW (stepS (plOf (parseS s)) (L.getD k noSet) (c : Int)))] : List PV).getD j default = (fun i => (eA (eK .u64) 1 2) (([(setW (stepS (plOf (parseS s)) (L.getD k noSet) (c : Int)))]).getD i (fun _ => 0))) j, ((((rowAt (plOf (parseS s)) (L.getD k noSet) L c).1.map setW).length) + (([(setW (stepS (plOf (parseS s)) (L.getD k noSet) (c : Int)))]).length)) * 16 ≤ 140737488355328] [2, 4, 10, 11, 12, 13, 14, 17, 18, 20, 82, 83] [.ref 0 [], .p ((eL ePlace 3 dPlace) (plOf (parseS s))), .own 9, .own 3, .ref 4 [], vint .i64 (k : Int), vbool (acc (plOf (parseS s)) (L.getD k noSet) q), .own 7, vint .i64 (c : Int), vint .i64 ((((rowAt (plOf (parseS s)) (L.getD k noSet) L c).1.map setW).length : Nat) : Int), vint .i64 37, vint .i64 (c : Int)] [.box (.p (.agg [.v (.slice none 0 0), .v (.slice none 0 0)])), .box (.p ((eA (eK .u64) 1 2) (setW (startAt (stOf (parseS s)) n0)))), .dead, .map (.arr 2 .u64) (setMap (mapK ((rowAt (plOf (parseS s)) (L.getD k noSet) L c).1.map keyS)) ([(setW (stepS (plOf (parseS s)) (L.getD k noSet) (c : Int))) 0, (setW (stepS (plOf (parseS s)) (L.getD k noSet) (c : Int))) 1] : List Int) (.v (.int .i64 ((((rowAt (plOf (parseS s)) (L.getD k noSet) L c).1.map setW).length : Nat) : Int)))), .box (.agg [.own 5, .own 6]), oL 4 eB 1 false A, oL 22 (eL eI 1 0) 1 [] Nx, oL 3 eI 1 0 (rowL (plOf (parseS s)) (L.getD k noSet) L c), .box (.p ((eA (eK .u64) 1 2) (setW (stepS (plOf (parseS s)) (L.getD k noSet) (c : Int))))), .arr 67 2 (((rowAt (plOf (parseS s)) (L.getD k noSet) L c).1.map setW).length + ([(setW (stepS (plOf (parseS s)) (L.getD k noSet) (c : Int)))]).length) (appF (fun i => .p ((eA (eK .u64) 1 2) (((rowAt (plOf (parseS s)) (L.getD k noSet) L c).1.map setW).getD i (fun _ => 0)))) (((rowAt (plOf (parseS s)) (L.getD k noSet) L c).1.map setW).length) (fun j => .p ((eA (eK .u64) 1 2) (([(setW (stepS (plOf (parseS s)) (L.getD k noSet) (c : Int)))]).getD j (fun _ => 0)))))] [] [(2, .p ((eL (eA (eK .u64) 1 2) 2 (fun _ => 0)) ([(setW (stepS (plOf (parseS s)) (L.getD k noSet) (c : Int)))])))] (al (lit_pv (e := (eA (eK .u64) 1 2)) (d := (fun _ => 0)) (l := [(setW (stepS (plOf (parseS s)) (L.getD k noSet) (c : Int)))])) (al (by simp_all; omega) (trivial))) (nm_pre (E' := [(2, none, .ref 0 []), (4, none, .p ((eL ePlace 3 dPlace) (plOf (parseS s)))), (10, none, .own 9), (11, none, .own 3), (12, none, .ref 4 []), (13, none, vint .i64 (k : Int)), (14, none, vbool (acc (plOf (parseS s)) (L.getD k noSet) q)), (17, none, .own 7), (18, none, vint .i64 (c : Int)), (20, none, vint .i64 ((((rowAt (plOf (parseS s)) (L.getD k noSet) L c).1.map setW).length : Nat) : Int)), (82, none, vint .i64 37), (83, none, vint .i64 (c : Int))]) (H' := [.box (.p (.agg [.v (.slice none 0 0), .v (.slice none 0 0)])), .box (.p ((eA (eK .u64) 1 2) (setW (startAt (stOf (parseS s)) n0)))), .dead, .map (.arr 2 .u64) (setMap (mapK ((rowAt (plOf (parseS s)) (L.getD k noSet) L c).1.map keyS)) ([(setW (stepS (plOf (parseS s)) (L.getD k noSet) (c : Int))) 0, (setW (stepS (plOf (parseS s)) (L.getD k noSet) (c : Int))) 1] : List Int) (.v (.int .i64 ((((rowAt (plOf (parseS s)) (L.getD k noSet) L c).1.map setW).length : Nat) : Int)))), .box (.agg [.own 5, .own 6]), oL 4 eB 1 false A, oL 22 (eL eI 1 0) 1 [] Nx, oL 3 eI 1 0 (rowL (plOf (parseS s)) (L.getD k noSet) L c), .box (.p ((eA (eK .u64) 1 2) (setW (stepS (plOf (parseS s)) (L.getD k noSet) (c : Int))))), oL 67 (eA (eK .u64) 1 2) 2 (fun _ => 0) (((rowAt (plOf (parseS s)) (L.getD k noSet) L c).1.map setW) ++ ([(setW (stepS (plOf (parseS s)) (L.getD k noSet) (c : Int)))]))]) (fun _ _ => sl_arr (n := (((rowAt (plOf (parseS s)) (L.getD k noSet) L c).1.map setW).length + ([(setW (stepS (plOf (parseS s)) (L.getD k noSet) (c : Int)))]).length)) (n' := (((rowAt (plOf (parseS s)) (L.getD k noSet) L c).1.map setW) ++ ([(setW (stepS (plOf (parseS s)) (L.getD k noSet) (c : Int)))])).length) (f := appF (fun i => .p ((eA (eK .u64) 1 2) (((rowAt (plOf (parseS s)) (L.getD k noSet) L c).1.map setW).getD i (fun _ => 0)))) (((rowAt (plOf (parseS s)) (L.getD k noSet) L c).1.map setW).length) (fun j => .p ((eA (eK .u64) 1 2) (([(setW (stepS (plOf (parseS s)) (L.getD k noSet) (c : Int)))]).getD j (fun _ => 0))))) 9 (fun i => .p ((eA (eK .u64) 1 2) ((((rowAt (plOf (parseS s)) (L.getD k noSet) L c).1.map setW) ++ ([(setW (stepS (plOf (parseS s)) (L.getD k noSet) (c : Int)))])).getD i (fun _ => 0)))) (by kernel_rfl) (by simp) (by first | exact appN | exact nilN | exact app0 | exact nilV _)) (jn_end () ?_ ?_))))))))
              ·exact trivial
              ·intro A_ W_ hS
               replace hS := q_a (d := vint .i64 ((((rowAt (plOf (parseS s)) (L.getD k noSet) L c).1.map setW).length : Nat) : Int)) 20 (vint .i64 (atS (plOf (parseS s)) (L.getD k noSet) L c)) (eqD_int (by first | exact (rowAt_0 hc7).2.symm | (rw [(rowAt_n hc7 hc8).2.1, List.length_map]) | exact (rowAt_i hc7 (eq_true_of_ne_false hc8)).2.symm)) hS
               replace hS := sl_obj (o := .map (.arr 2 .u64) (setMap (mapK ((rowAt (plOf (parseS s)) (L.getD k noSet) L c).1.map keyS)) ([(setW (stepS (plOf (parseS s)) (L.getD k noSet) (c : Int))) 0, (setW (stepS (plOf (parseS s)) (L.getD k noSet) (c : Int))) 1] : List Int) (.v (.int .i64 ((((rowAt (plOf (parseS s)) (L.getD k noSet) L c).1.map setW).length : Nat) : Int))))) 3 (.map (.arr 2 .u64) (mapK ((rowAt (plOf (parseS s)) (L.getD k noSet) L (c + 1)).1.map keyS))) (by kernel_rfl) (congrArg (O.map (.arr 2 .u64)) (a₁ := (setMap (mapK ((rowAt (plOf (parseS s)) (L.getD k noSet) L c).1.map keyS)) ([(setW (stepS (plOf (parseS s)) (L.getD k noSet) (c : Int))) 0, (setW (stepS (plOf (parseS s)) (L.getD k noSet) (c : Int))) 1] : List Int) (.v (.int .i64 ((((rowAt (plOf (parseS s)) (L.getD k noSet) L c).1.map setW).length : Nat) : Int))))) (a₂ := (mapK ((rowAt (plOf (parseS s)) (L.getD k noSet) L (c + 1)).1.map keyS))) (by first | (rw [(rowAt_0 hc7).1]) | (rw [(rowAt_n hc7 hc8).1, List.length_map]; exact mapK_next (rowAt_n hc7 hc8).2.2) | (rw [(rowAt_i hc7 (eq_true_of_ne_false hc8)).1]))) hS
               replace hS := sl_arr (e := 67) (sz := 2) (n := (((rowAt (plOf (parseS s)) (L.getD k noSet) L c).1.map setW) ++ ([(setW (stepS (plOf (parseS s)) (L.getD k noSet) (c : Int)))])).length) (n' := ((rowAt (plOf (parseS s)) (L.getD k noSet) L (c + 1)).1.map setW).length) (f := (fun i => .p ((eA (eK .u64) 1 2) ((((rowAt (plOf (parseS s)) (L.getD k noSet) L c).1.map setW) ++ ([(setW (stepS (plOf (parseS s)) (L.getD k noSet) (c : Int)))])).getD i (fun _ => 0))))) 9 (fun i => .p ((eA (eK .u64) 1 2) (((rowAt (plOf (parseS s)) (L.getD k noSet) L (c + 1)).1.map setW).getD i (fun _ => 0)))) (by kernel_rfl) (by first | (rw [(rowAt_0 hc7).1]) | (rw [(rowAt_n hc7 hc8).1, List.map_append]; rfl) | (rw [(rowAt_i hc7 (eq_true_of_ne_false hc8)).1])) (by intro j hj; first | (rw [(rowAt_0 hc7).1]; done) | (rw [(rowAt_n hc7 hc8).1, List.map_append]; done) | (rw [(rowAt_n hc7 hc8).1, List.map_append]; rfl) | (rw [(rowAt_i hc7 (eq_true_of_ne_false hc8)).1])) hS
               exact q_v [∀ i, i < ((rowAt (plOf (parseS s)) (L.getD k noSet) L (c + 1)).1.map setW).length → D.p ((eA (eK .u64) 1 2) (((rowAt (plOf (parseS s)) (L.getD k noSet) L (c + 1)).1.map setW).getD i (fun _ => 0))) = .p ((eA (eK .u64) 1 2) (((rowAt (plOf (parseS s)) (L.getD k noSet) L (c + 1)).1.map setW).getD i (fun _ => 0))), ∀ i, i < A.length → D.p (eB (A.getD i false)) = .p (eB (A.getD i false)), ∀ i, i < Nx.length → D.p ((eL eI 1 0) (Nx.getD i [])) = .p ((eL eI 1 0) (Nx.getD i [])), ∀ i, i < (rowL (plOf (parseS s)) (L.getD k noSet) L c).length → D.p (eI ((rowL (plOf (parseS s)) (L.getD k noSet) L c).getD i 0)) = .p (eI ((rowL (plOf (parseS s)) (L.getD k noSet) L c).getD i 0))] [0, 1, 9, 3, 4, 5, 6, 7, 8] [2, 4, 10, 11, 12, 13, 14, 17, 18, 20, 82, 83] (al (fun _ _ => rfl) (al (fun _ _ => rfl) (al (fun _ _ => rfl) (al (fun _ _ => rfl) trivial)))) hS
             ·refine tr_skip (jn_end () ?_ ?_)
              ·exact trivial
              ·intro A_ W_ hS
               replace hS := q_a (d := vint .i64 (idxV (stepS (plOf (parseS s)) (L.getD k noSet) c) (rowAt (plOf (parseS s)) (L.getD k noSet) L c).1)) 20 (vint .i64 (atS (plOf (parseS s)) (L.getD k noSet) L c)) (eqD_int (by first | exact (rowAt_0 hc7).2.symm | (rw [(rowAt_n hc7 hc8).2.1, List.length_map]) | exact (rowAt_i hc7 (eq_true_of_ne_false hc8)).2.symm)) hS
               replace hS := sl_obj (o := .map (.arr 2 .u64) (mapK ((rowAt (plOf (parseS s)) (L.getD k noSet) L c).1.map keyS))) 3 (.map (.arr 2 .u64) (mapK ((rowAt (plOf (parseS s)) (L.getD k noSet) L (c + 1)).1.map keyS))) (by kernel_rfl) (congrArg (O.map (.arr 2 .u64)) (a₁ := (mapK ((rowAt (plOf (parseS s)) (L.getD k noSet) L c).1.map keyS))) (a₂ := (mapK ((rowAt (plOf (parseS s)) (L.getD k noSet) L (c + 1)).1.map keyS))) (by first | (rw [(rowAt_0 hc7).1]) | (rw [(rowAt_n hc7 hc8).1, List.length_map]; exact mapK_next (rowAt_n hc7 hc8).2.2) | (rw [(rowAt_i hc7 (eq_true_of_ne_false hc8)).1]))) hS
               replace hS := sl_arr (e := 67) (sz := 2) (n := ((rowAt (plOf (parseS s)) (L.getD k noSet) L c).1.map setW).length) (n' := ((rowAt (plOf (parseS s)) (L.getD k noSet) L (c + 1)).1.map setW).length) (f := (fun i => .p ((eA (eK .u64) 1 2) (((rowAt (plOf (parseS s)) (L.getD k noSet) L c).1.map setW).getD i (fun _ => 0))))) 2 (fun i => .p ((eA (eK .u64) 1 2) (((rowAt (plOf (parseS s)) (L.getD k noSet) L (c + 1)).1.map setW).getD i (fun _ => 0)))) (by kernel_rfl) (by first | (rw [(rowAt_0 hc7).1]) | (rw [(rowAt_n hc7 hc8).1, List.map_append]; rfl) | (rw [(rowAt_i hc7 (eq_true_of_ne_false hc8)).1])) (by intro j hj; first | (rw [(rowAt_0 hc7).1]; done) | (rw [(rowAt_n hc7 hc8).1, List.map_append]; done) | (rw [(rowAt_n hc7 hc8).1, List.map_append]; rfl) | (rw [(rowAt_i hc7 (eq_true_of_ne_false hc8)).1])) hS
               exact q_v [∀ i, i < ((rowAt (plOf (parseS s)) (L.getD k noSet) L (c + 1)).1.map setW).length → D.p ((eA (eK .u64) 1 2) (((rowAt (plOf (parseS s)) (L.getD k noSet) L (c + 1)).1.map setW).getD i (fun _ => 0))) = .p ((eA (eK .u64) 1 2) (((rowAt (plOf (parseS s)) (L.getD k noSet) L (c + 1)).1.map setW).getD i (fun _ => 0))), ∀ i, i < A.length → D.p (eB (A.getD i false)) = .p (eB (A.getD i false)), ∀ i, i < Nx.length → D.p ((eL eI 1 0) (Nx.getD i [])) = .p ((eL eI 1 0) (Nx.getD i [])), ∀ i, i < (rowL (plOf (parseS s)) (L.getD k noSet) L c).length → D.p (eI ((rowL (plOf (parseS s)) (L.getD k noSet) L c).getD i 0)) = .p (eI ((rowL (plOf (parseS s)) (L.getD k noSet) L c).getD i 0))] [0, 1, 2, 3, 4, 5, 6, 7, 8] [2, 4, 10, 11, 12, 13, 14, 17, 18, 20, 82, 83] (al (fun _ _ => rfl) (al (fun _ _ => rfl) (al (fun _ _ => rfl) (al (fun _ _ => rfl) trivial)))) hS
          ·refine tr_exit (th_e (th_e (in_hit (tr_then (tr_seq (tr_pre (E' := [(2, none, .ref 0 []), (4, none, .p ((eL ePlace 3 dPlace) (plOf (parseS s)))), (10, none, .own 2), (11, none, .own 3), (12, none, .ref 4 []), (13, none, vint .i64 (k : Int)), (14, none, vbool (acc (plOf (parseS s)) (L.getD k noSet) q)), (17, none, .p ((eL eI 1 0) (rowL (plOf (parseS s)) (L.getD k noSet) L c))), (82, none, vint .i64 37), (83, none, vint .i64 (c : Int)), (84, none, vbool (decide ((c : Int) < 37)))]) (H' := [.box (.p (.agg [.v (.slice none 0 0), .v (.slice none 0 0)])), .box (.p ((eA (eK .u64) 1 2) (setW (startAt (stOf (parseS s)) n0)))), oL 67 (eA (eK .u64) 1 2) 2 (fun _ => 0) ((rowAt (plOf (parseS s)) (L.getD k noSet) L c).1.map setW), .map (.arr 2 .u64) (mapK ((rowAt (plOf (parseS s)) (L.getD k noSet) L c).1.map keyS)), .box (.agg [.own 5, .own 6]), oL 4 eB 1 false A, oL 22 (eL eI 1 0) 1 [] Nx, .dead]) (fun _ _ => sl_freeze (vc := [∀ j, j < (rowL (plOf (parseS s)) (L.getD k noSet) L c).length → D.p (eI ((rowL (plOf (parseS s)) (L.getD k noSet) L c).getD j 0)) = .p ((fun j => eI ((rowL (plOf (parseS s)) (L.getD k noSet) L c).getD j 0)) j), ∀ i, i < ((rowAt (plOf (parseS s)) (L.getD k noSet) L c).1.map setW).length → D.p ((eA (eK .u64) 1 2) (((rowAt (plOf (parseS s)) (L.getD k noSet) L c).1.map setW).getD i (fun _ => 0))) = .p ((eA (eK .u64) 1 2) (((rowAt (plOf (parseS s)) (L.getD k noSet) L c).1.map setW).getD i (fun _ => 0))), ∀ i, i < A.length → D.p (eB (A.getD i false)) = .p (eB (A.getD i false)), ∀ i, i < Nx.length → D.p ((eL eI 1 0) (Nx.getD i [])) = .p ((eL eI 1 0) (Nx.getD i []))]) 7 (fun j => eI ((rowL (plOf (parseS s)) (L.getD k noSet) L c).getD j 0)) (by kernel_rfl) (al (fun _ _ => rfl) (al (fun _ _ => rfl) (al (fun _ _ => rfl) (al (fun _ _ => rfl) trivial))))) (tr_dx (vc := [∀ j, j < 1 → ([.v (.bool (acc (plOf (parseS s)) (L.getD k noSet) q))] : List PV).getD j default = (fun i => eB (([(acc (plOf (parseS s)) (L.getD k noSet) q)]).getD i false)) j, (A.length + (([(acc (plOf (parseS s)) (L.getD k noSet) q)]).length)) * 1 ≤ 140737488355328, ∀ j, j < 1 → ([(eL eI 1 0) (rowL (plOf (parseS s)) (L.getD k noSet) L c)] : List PV).getD j default = (fun i => (eL eI 1 0) (([(rowL (plOf (parseS s)) (L.getD k noSet) L c)]).getD i [])) j, (Nx.length + (([(rowL (plOf (parseS s)) (L.getD k noSet) L c)]).length)) * 24 ≤ 140737488355328]) (E' := [(2, none, .ref 0 []), (4, none, .p ((eL ePlace 3 dPlace) (plOf (parseS s)))), (10, none, .own 2), (11, none, .own 3), (12, none, .ref 4 []), (13, none, vint .i64 (k : Int))]) (H' := [.box (.p (.agg [.v (.slice none 0 0), .v (.slice none 0 0)])), .box (.p ((eA (eK .u64) 1 2) (setW (startAt (stOf (parseS s)) n0)))), oL 67 (eA (eK .u64) 1 2) 2 (fun _ => 0) ((rowAt (plOf (parseS s)) (L.getD k noSet) L c).1.map setW), .map (.arr 2 .u64) (mapK ((rowAt (plOf (parseS s)) (L.getD k noSet) L c).1.map keyS)), .box (.agg [.own 8, .own 9]), .dead, .dead, .dead, .arr 4 1 (A.length + ([(acc (plOf (parseS s)) (L.getD k noSet) q)]).length) (appF (fun i => .p (eB (A.getD i false))) A.length (fun j => .p (eB (([(acc (plOf (parseS s)) (L.getD k noSet) q)]).getD j false)))), .arr 22 1 (Nx.length + ([(rowL (plOf (parseS s)) (L.getD k noSet) L c)]).length) (appF (fun i => .p ((eL eI 1 0) (Nx.getD i []))) Nx.length (fun j => .p ((eL eI 1 0) (([(rowL (plOf (parseS s)) (L.getD k noSet) L c)]).getD j []))))]) 10 [(1, 10, [], [4]), (4, 8, [5, 8], [5, 8]), (6, 10, [], [4]), (9, 9, [6, 9], [6, 9]), (11, 10, [4], [4, 8]), (13, 10, [4], [4, 9])] [] [(3, .p ((eL eB 1 false) ([(acc (plOf (parseS s)) (L.getD k noSet) q)]))), (8, .p ((eL (eL eI 1 0) 1 []) ([(rowL (plOf (parseS s)) (L.getD k noSet) L c)])))] [2, 4, 10, 11, 12, 13] (by kernel_rfl) (by kernel_rfl) (by kernel_rfl) (by kernel_rfl) (al (lit_pv (e := eB) (d := false) (l := [(acc (plOf (parseS s)) (L.getD k noSet) q)])) (al (by simp_all; omega) (al (lit_pv (e := (eL eI 1 0)) (d := []) (l := [(rowL (plOf (parseS s)) (L.getD k noSet) L c)])) (al (by simp_all; omega) (trivial))))) (nm_pre (E' := [(2, none, .ref 0 []), (4, none, .p ((eL ePlace 3 dPlace) (plOf (parseS s)))), (10, none, .own 2), (11, none, .own 3), (12, none, .ref 4 []), (13, none, vint .i64 (k : Int))]) (H' := [.box (.p (.agg [.v (.slice none 0 0), .v (.slice none 0 0)])), .box (.p ((eA (eK .u64) 1 2) (setW (startAt (stOf (parseS s)) n0)))), oL 67 (eA (eK .u64) 1 2) 2 (fun _ => 0) ((rowAt (plOf (parseS s)) (L.getD k noSet) L c).1.map setW), .map (.arr 2 .u64) (mapK ((rowAt (plOf (parseS s)) (L.getD k noSet) L c).1.map keyS)), .box (.agg [.own 8, .own 9]), .dead, .dead, .dead, oL 4 eB 1 false (A ++ ([(acc (plOf (parseS s)) (L.getD k noSet) q)])), .arr 22 1 (Nx.length + ([(rowL (plOf (parseS s)) (L.getD k noSet) L c)]).length) (appF (fun i => .p ((eL eI 1 0) (Nx.getD i []))) Nx.length (fun j => .p ((eL eI 1 0) (([(rowL (plOf (parseS s)) (L.getD k noSet) L c)]).getD j []))))]) (fun _ _ => sl_arr (n := (A.length + ([(acc (plOf (parseS s)) (L.getD k noSet) q)]).length)) (n' := (A ++ ([(acc (plOf (parseS s)) (L.getD k noSet) q)])).length) (f := appF (fun i => .p (eB (A.getD i false))) A.length (fun j => .p (eB (([(acc (plOf (parseS s)) (L.getD k noSet) q)]).getD j false)))) 8 (fun i => .p (eB ((A ++ ([(acc (plOf (parseS s)) (L.getD k noSet) q)])).getD i false))) (by kernel_rfl) (by simp) (by first | exact appN | exact nilN | exact app0 | exact nilV _)) (nm_pre (E' := [(2, none, .ref 0 []), (4, none, .p ((eL ePlace 3 dPlace) (plOf (parseS s)))), (10, none, .own 2), (11, none, .own 3), (12, none, .ref 4 []), (13, none, vint .i64 (k : Int))]) (H' := [.box (.p (.agg [.v (.slice none 0 0), .v (.slice none 0 0)])), .box (.p ((eA (eK .u64) 1 2) (setW (startAt (stOf (parseS s)) n0)))), oL 67 (eA (eK .u64) 1 2) 2 (fun _ => 0) ((rowAt (plOf (parseS s)) (L.getD k noSet) L c).1.map setW), .map (.arr 2 .u64) (mapK ((rowAt (plOf (parseS s)) (L.getD k noSet) L c).1.map keyS)), .box (.agg [.own 8, .own 9]), .dead, .dead, .dead, oL 4 eB 1 false (A ++ ([(acc (plOf (parseS s)) (L.getD k noSet) q)])), oL 22 (eL eI 1 0) 1 [] (Nx ++ ([(rowL (plOf (parseS s)) (L.getD k noSet) L c)]))]) (fun _ _ => sl_arr (n := (Nx.length + ([(rowL (plOf (parseS s)) (L.getD k noSet) L c)]).length)) (n' := (Nx ++ ([(rowL (plOf (parseS s)) (L.getD k noSet) L c)])).length) (f := appF (fun i => .p ((eL eI 1 0) (Nx.getD i []))) Nx.length (fun j => .p ((eL eI 1 0) (([(rowL (plOf (parseS s)) (L.getD k noSet) L c)]).getD j [])))) 9 (fun i => .p ((eL eI 1 0) ((Nx ++ ([(rowL (plOf (parseS s)) (L.getD k noSet) L c)])).getD i []))) (by kernel_rfl) (by simp) (by first | exact appN | exact nilN | exact app0 | exact nilV _)) (tr_then (tr_seq (q_m [2, 4, 10, 11, 12, 13, 132] [.ref 0 [], .p ((eL ePlace 3 dPlace) (plOf (parseS s))), .own 2, .own 3, .ref 4 [], vint .i64 (k : Int), vbool (decide (16 < ((((rowAt (plOf (parseS s)) (L.getD k noSet) L c).1.map setW).length : Nat) : Int)))] (tr_then (q_e (16 < ((((rowAt (plOf (parseS s)) (L.getD k noSet) L c).1.map setW).length : Nat) : Int)) (fun hc9 => ?_) (fun hc9 => ?_)))))))))))))))
           ·refine tr_seq (q_m [2, 3] [.ref 0 [], vint .i64 2] (tr_then (tr_pre (E' := [(2, none, .ref 0 []), (3, none, vint .i64 2)]) (H' := [.box (.p (.agg [.v (.slice none 0 0), .v (.slice none 0 0)]))]) (fun _ _ h => q_w [0] [2, 3] h) (tr_pre (fun _ _ => sl_obj_imp (d := .p (.agg [.v (.slice none 0 0), .v (.slice none 0 0)])) 0 (.p (eLang ((langS s).1))) (by kernel_rfl) ?_) ?_))))
            ·refine err_lang ?_
             first | (rw [langS_1 (by omega)]; done) | (rw [langS_2 (by omega) hc2]; done) | (obtain rfl : c = 37 := (by omega); rw [langS_3 (by omega) hc2 (by rw [← hi1_0]; exact bfs_many (by omega) (by omega) (by omega))]; done) | (rw [langS_4 (by omega) hc2 (by rw [← hi1_0]; exact bfs_end (by omega) (by omega))]; done)
            refine q_i (d := vint .i64 2) 3 (vint .i64 ((langS s).2)) ?_ ?_
            ·refine imp_eq (congrArg (fun x => D.p (eI x)) (a₁ := 2) (a₂ := ((langS s).2)) ?_)
             first | (rw [langS_1 (by omega)]; done) | (rw [langS_2 (by omega) hc2]; done) | (obtain rfl : c = 37 := (by omega); rw [langS_3 (by omega) hc2 (by rw [← hi1_0]; exact bfs_many (by omega) (by omega) (by omega))]; done) | (rw [langS_4 (by omega) hc2 (by rw [← hi1_0]; exact bfs_end (by omega) (by omega))]; done)
            exact q_z [.p (eLang ((langS s).1)), vint .i64 ((langS s).2)] (fun _ _ h => h)
           ·refine tr_skip (in_n (tr_then (q_k [(IntKind.wrap .i64 ((k : Int) + 1)) = (((k + 1) : Nat) : Int)] [2, 4, 10, 11, 12, 13] [.ref 0 [], .p ((eL ePlace 3 dPlace) (plOf (parseS s))), .own 2, .own 3, .ref 4 [], vint .i64 (((k + 1) : Nat) : Int)] [(1, vint .i64 (((k + 1) : Nat) : Int))] [] (al (wr64 (by omega) (by omega) (by omega)) (trivial)) (lp_end ((k + 1), (rowAt (plOf (parseS s)) (L.getD k noSet) L 37).1, (A ++ [acceptS (plOf (parseS s)) (L.getD k noSet)]), (Nx ++ [(rowAt (plOf (parseS s)) (L.getD k noSet) L 37).2])) ?_ ?_ ?_))))
            ·show (bfsM (plOf (parseS s)) (17 - (k + 1)) ((rowAt (plOf (parseS s)) (L.getD k noSet) L 37).1) (k + 1) (A ++ [acceptS (plOf (parseS s)) (L.getD k noSet)]) (Nx ++ [(rowAt (plOf (parseS s)) (L.getD k noSet) L 37).2]) = bfsM (plOf (parseS s)) 17 [startS (parseS s)] 0 [] []) ∧ ((k + 1) ≤ ((rowAt (plOf (parseS s)) (L.getD k noSet) L 37).1).length) ∧ (((rowAt (plOf (parseS s)) (L.getD k noSet) L 37).1).length ≤ 16) ∧ ((A ++ [acceptS (plOf (parseS s)) (L.getD k noSet)]).length = (k + 1)) ∧ ((Nx ++ [(rowAt (plOf (parseS s)) (L.getD k noSet) L 37).2]).length = (k + 1))
             refine ⟨?_, ?_, ?_, ?_, ?_⟩
             ·obtain rfl : c = 37 := (by omega); rw [← hi1_0, bfs_step (n := 17 - k) (by omega) (by omega) (by omega), Nat.sub_sub]
             ·grind
             ·grind
             ·(simp_all; done)
             ·(simp_all; done)
            ·show 17 - (k + 1) < 17 - k
             omega
            ·intro A_ W_ hS
             replace hS := sl_obj (o := .map (.arr 2 .u64) (mapK ((rowAt (plOf (parseS s)) (L.getD k noSet) L c).1.map keyS))) 3 (.map (.arr 2 .u64) (mapK (((rowAt (plOf (parseS s)) (L.getD k noSet) L 37).1).map keyS))) (by kernel_rfl) (congrArg (O.map (.arr 2 .u64)) (a₁ := (mapK ((rowAt (plOf (parseS s)) (L.getD k noSet) L c).1.map keyS))) (a₂ := (mapK (((rowAt (plOf (parseS s)) (L.getD k noSet) L 37).1).map keyS))) (by grind)) hS
             replace hS := sl_arr (e := 67) (sz := 2) (n := ((rowAt (plOf (parseS s)) (L.getD k noSet) L c).1.map setW).length) (n' := (((rowAt (plOf (parseS s)) (L.getD k noSet) L 37).1).map setW).length) (f := (fun i => .p ((eA (eK .u64) 1 2) (((rowAt (plOf (parseS s)) (L.getD k noSet) L c).1.map setW).getD i (fun _ => 0))))) 2 (fun i => .p ((eA (eK .u64) 1 2) ((((rowAt (plOf (parseS s)) (L.getD k noSet) L 37).1).map setW).getD i (fun _ => 0)))) (by kernel_rfl) (by first | omega | (intro hg; simp at hg; omega) | (simp; done) | (simp_all; done) | (simp_all; omega) | grind) (by first | omega | (intro hg; simp at hg; omega) | (simp; done) | (simp_all; done) | (simp_all; omega) | grind) hS
             replace hS := sl_arr (e := 4) (sz := 1) (n := (A ++ ([(acc (plOf (parseS s)) (L.getD k noSet) q)])).length) (n' := (A ++ [acceptS (plOf (parseS s)) (L.getD k noSet)]).length) (f := (fun i => .p (eB ((A ++ ([(acc (plOf (parseS s)) (L.getD k noSet) q)])).getD i false)))) 8 (fun i => .p (eB ((A ++ [acceptS (plOf (parseS s)) (L.getD k noSet)]).getD i false))) (by kernel_rfl) (by (simp; done)) (by intro j hj; unfold acceptS; rw [show (plOf (parseS s)).length = q by omega]) hS
             replace hS := sl_arr (e := 22) (sz := 1) (n := (Nx ++ ([(rowL (plOf (parseS s)) (L.getD k noSet) L c)])).length) (n' := (Nx ++ [(rowAt (plOf (parseS s)) (L.getD k noSet) L 37).2]).length) (f := (fun i => .p ((eL eI 1 0) ((Nx ++ ([(rowL (plOf (parseS s)) (L.getD k noSet) L c)])).getD i [])))) 9 (fun i => .p ((eL eI 1 0) ((Nx ++ [(rowAt (plOf (parseS s)) (L.getD k noSet) L 37).2]).getD i []))) (by kernel_rfl) (by (simp; done)) (by intro j hj; rw [show c = 37 by omega, rowL_37]) hS
             exact q_v [∀ i, i < (((rowAt (plOf (parseS s)) (L.getD k noSet) L 37).1).map setW).length → D.p ((eA (eK .u64) 1 2) ((((rowAt (plOf (parseS s)) (L.getD k noSet) L 37).1).map setW).getD i (fun _ => 0))) = .p ((eA (eK .u64) 1 2) ((((rowAt (plOf (parseS s)) (L.getD k noSet) L 37).1).map setW).getD i (fun _ => 0))), ∀ i, i < (A ++ [acceptS (plOf (parseS s)) (L.getD k noSet)]).length → D.p (eB ((A ++ [acceptS (plOf (parseS s)) (L.getD k noSet)]).getD i false)) = .p (eB ((A ++ [acceptS (plOf (parseS s)) (L.getD k noSet)]).getD i false)), ∀ i, i < (Nx ++ [(rowAt (plOf (parseS s)) (L.getD k noSet) L 37).2]).length → D.p ((eL eI 1 0) ((Nx ++ [(rowAt (plOf (parseS s)) (L.getD k noSet) L 37).2]).getD i [])) = .p ((eL eI 1 0) ((Nx ++ [(rowAt (plOf (parseS s)) (L.getD k noSet) L 37).2]).getD i []))] [0, 1, 2, 3, 4, 8, 9] [2, 4, 10, 11, 12, 13] (al (fun _ _ => rfl) (al (fun _ _ => rfl) (al (fun _ _ => rfl) trivial))) hS
      ·refine tr_exit (th_e (th_e (in_hit (tr_then (tr_seq (q_t [2, 3] [.ref 0 [], vint .i64 0] [.box (.agg [.own 5, .own 6]), .box (.p ((eA (eK .u64) 1 2) (setW (startAt (stOf (parseS s)) n0)))), oL 67 (eA (eK .u64) 1 2) 2 (fun _ => 0) (L.map setW), .map (.arr 2 .u64) (mapK (L.map keyS)), .box (.agg [.own 5, .own 6]), oL 4 eB 1 false A, oL 22 (eL eI 1 0) 1 [] Nx] (tr_then (tr_pre (E' := [(2, none, .ref 0 []), (3, none, vint .i64 0)]) (H' := [.box (.agg [.own 1, .own 2]), oL 4 eB 1 false A, oL 22 (eL eI 1 0) 1 [] Nx]) (fun A_ W_ hS => sl_weak (vc := [∀ i, i < A.length → D.p (eB (A.getD i false)) = .p (eB (A.getD i false)), ∀ i, i < Nx.length → D.p ((eL eI 1 0) (Nx.getD i [])) = .p ((eL eI 1 0) (Nx.getD i []))]) [0, 5, 6] [2, 3] (by kernel_rfl) (al (fun _ _ => rfl) (al (fun _ _ => rfl) trivial)) hS) (tr_pre (E' := [(2, none, .ref 0 []), (3, none, vint .i64 0)]) (H' := [.box (.agg [.p ((eL eB 1 false) A), .own 2]), .dead, oL 22 (eL eI 1 0) 1 [] Nx]) (fun _ _ => sl_freeze (vc := [∀ j, j < A.length → D.p (eB (A.getD j false)) = .p ((fun j => eB (A.getD j false)) j), ∀ i, i < Nx.length → D.p ((eL eI 1 0) (Nx.getD i [])) = .p ((eL eI 1 0) (Nx.getD i []))]) 1 (fun j => eB (A.getD j false)) (by kernel_rfl) (al (fun _ _ => rfl) (al (fun _ _ => rfl) trivial))) (tr_pre (E' := [(2, none, .ref 0 []), (3, none, vint .i64 0)]) (H' := [.box (.p (.agg [(eL eB 1 false) A, (eL (eL eI 1 0) 1 []) Nx])), .dead, .dead]) (fun _ _ => sl_freeze (vc := [∀ j, j < Nx.length → D.p ((eL eI 1 0) (Nx.getD j [])) = .p ((fun j => (eL eI 1 0) (Nx.getD j [])) j)]) 2 (fun j => (eL eI 1 0) (Nx.getD j [])) (by kernel_rfl) (al (fun _ _ => rfl) trivial)) (tr_pre (fun _ _ => sl_obj_imp (d := .p (.agg [(eL eB 1 false) A, (eL (eL eI 1 0) 1 []) Nx])) 0 (.p (eLang ((langS s).1))) (by kernel_rfl) ?_) ?_)))))))))))
       ·refine ok_lang ?_
        first | (rw [langS_1 (by omega)]; done) | (rw [langS_2 (by omega) hc2]; done) | (obtain rfl : c = 37 := (by omega); rw [langS_3 (by omega) hc2 (by rw [← hi1_0]; exact bfs_many (by omega) (by omega) (by omega))]; done) | (rw [langS_4 (by omega) hc2 (by rw [← hi1_0]; exact bfs_end (by omega) (by omega))]; done)
       refine q_i (d := vint .i64 0) 3 (vint .i64 ((langS s).2)) ?_ ?_
       ·refine imp_eq (congrArg (fun x => D.p (eI x)) (a₁ := 0) (a₂ := ((langS s).2)) ?_)
        first | (rw [langS_1 (by omega)]; done) | (rw [langS_2 (by omega) hc2]; done) | (obtain rfl : c = 37 := (by omega); rw [langS_3 (by omega) hc2 (by rw [← hi1_0]; exact bfs_many (by omega) (by omega) (by omega))]; done) | (rw [langS_4 (by omega) hc2 (by rw [← hi1_0]; exact bfs_end (by omega) (by omega))]; done)
       exact q_z [.p (eLang ((langS s).1)), vint .i64 ((langS s).2)] (fun _ _ h => h)
end Go.Proofs.Ytjnjmnfacaakfaa
namespace Go.Proofs.Ytjnjmnfacaakfaa
open Go.Eng
def orTo (prev : List Bool) (row : List Int) : Nat → Bool
 | 0 => false
 | c + 1 => orTo prev row c || (decide (0 ≤ row.getD c 0) && prev.getD (row.getD c 0).toNat false)
def rowC (l : Lang) (prev : List Bool) (k c : Nat) : List Bool := (List.range l.Accept.length).map fun q =>
 if q < k then orTo prev (l.Next.getD q []) (l.Next.getD q []).length else if q = k then orTo prev (l.Next.getD k []) c else false
def leadR (l : Lang) : Nat → List Bool
 | 0 => l.Accept
 | n + 1 => rowC l (leadR l n) l.Next.length 0
def leadsL (l : Lang) (n : Nat) : List (List Bool) := (List.range (n + 1)).map (leadR l)
section
variable {l : Lang} {prev : List Bool} {k c : Nat}
theorem rowC_len : (rowC l prev k c).length = l.Accept.length := by simp [rowC]
theorem leadR_len : ∀ n, (leadR l n).length = l.Accept.length
 | 0 => rfl
 | n + 1 => rowC_len
theorem rowC_start : List.replicate l.Accept.length false = rowC l prev 0 0 := by
 apply List.ext_getElem (by simp [rowC])
 intro i h1 h2
 simp [rowC, orTo]
theorem rowC_next : rowC l prev k (l.Next.getD k []).length = rowC l prev (k + 1) 0 := by
 unfold rowC
 apply List.map_congr_left
 intro q hq
 by_cases h : q < k
 ·rw [if_pos h, if_pos (by omega)]
 ·rw [if_neg h]
  by_cases h1 : q = k
  ·subst h1; rw [if_pos rfl, if_pos (by omega)]
  ·rw [if_neg h1, if_neg (by omega)]
   split <;> rfl
theorem rowC_get (h : k < l.Accept.length) : (rowC l prev k c).getD k false = orTo prev (l.Next.getD k []) c := by
 simp [rowC, List.getD_eq_getElem?_getD, List.getElem?_map, List.getElem?_range h]
theorem rowC_set (h : k < l.Accept.length) : (rowC l prev k c).set k (orTo prev (l.Next.getD k []) c || (decide (0 ≤ (l.Next.getD k []).getD c 0) && prev.getD ((l.Next.getD k []).getD c 0).toNat false)) = rowC l prev k (c + 1) := by
 apply List.ext_getElem (by simp [rowC])
 intro i h1 h2
 rw [List.getElem_set]
 split
 ·rename_i e
  subst e
  simp only [rowC, List.getElem_map, List.getElem_range, Nat.lt_irrefl, if_false, if_true, orTo]
 ·rename_i e
  simp only [rowC, List.getElem_map, List.getElem_range]
  have e' : ¬ i = k := fun h => e h.symm
  simp only [if_neg e']
theorem leadsL_get {n i : Nat} (h : i ≤ n) : (leadsL l n).getD i [] = leadR l i := by
 simp [leadsL, List.getD_eq_getElem?_getD, List.getElem?_map, List.getElem?_range (show i < n + 1 by omega)]
theorem leadsL_len {n : Nat} : (leadsL l n).length = n + 1 := by simp [leadsL]
theorem leadsL_next {n : Nat} : leadsL l n ++ [leadR l (n + 1)] = leadsL l (n + 1) := by
 unfold leadsL
 rw [List.range_succ (n := n + 1), List.map_append]
 rfl
end
theorem words_ok (l : Lang) (hok : check l = 0) : Pure Try.prog 41 [eLang l, .v (.int .i64 12)] (.fn 49 [.p (.pel ((eL (eL eB 1 false) 1 []) (leadsL l 12))), .p (.pel (eLang l)), .p (.pel (.v (.int .i64 12)))]) := by
 obtain ⟨f1, f2, f3, f4⟩ := check_facts hok
 refine pure_of (fn := Try.f41) Try.func41 rfl rfl fun F_ W0_ => ?_
 refine tr_seq (q_t [2, 3] [.ref 0 [], .ref 1 []] [.box (.p (eLang l)), .box (vint .i64 12)] (tr_then (tr_seq (q_t [2, 3, 5] [.ref 0 [], .ref 1 [], .ref 3 []] [.box (.p (eLang l)), .box (vint .i64 12), .arr 29 1 1 (fun j => ([.p ((eL eB 1 false) l.Accept)] : List D).getD j default), .box (.own 2)] (nm_pre (E' := [(2, none, .ref 0 []), (3, none, .ref 1 []), (5, none, .ref 3 [])]) (H' := [.box (.p (eLang l)), .box (vint .i64 12), oL 29 (eL eB 1 false) 1 [] ([l.Accept]), .box (.own 2)]) (fun _ _ => sl_arr (n := 1) (n' := ([l.Accept]).length) (f := fun j => ([.p ((eL eB 1 false) l.Accept)] : List D).getD j default) 2 (fun i => .p ((eL eB 1 false) (([l.Accept]).getD i []))) (by kernel_rfl) (rfl) (by exact lit_getD (e := (eL eB 1 false)) (d := []) (l := [l.Accept]))) (tr_then (tr_seq (tr_seq (q_m [2, 3, 5, 15, 16] [.ref 0 [], .ref 1 [], .ref 3 [], vint .i64 12, vint .i64 0] (tr_then (tr_block (tr_loop (α := Nat) (fun z : Nat => (fun (n0 : Nat) => [(2, none, .ref 0 []), (3, none, .ref 1 []), (5, none, .ref 3 []), (15, none, vint .i64 12), (16, none, vint .i64 (n0 : Int))]) z) (fun z : Nat => (fun (n0 : Nat) => [.box (.p (eLang l)), .box (vint .i64 12), oL 29 (eL eB 1 false) 1 [] (leadsL l n0), .box (.own 2)]) z) (fun z : Nat => (fun (n0 : Nat) => (n0 ≤ 12)) z) (fun z : Nat => (fun (n0 : Nat) => 12 - n0) z) 0 ?_ ?_ ?_))))))))))))
 ·show (0 ≤ 12)
  ·omega
 ·intro A_ W_ hS
  replace hS := q_a (d := vint .i64 0) 16 (vint .i64 ((0 : Nat) : Int)) (eqD_int (by omega)) hS
  replace hS := sl_arr (e := 29) (sz := 1) (n := ([l.Accept]).length) (n' := (leadsL l 0).length) (f := (fun i => .p ((eL eB 1 false) (([l.Accept]).getD i [])))) 2 (fun i => .p ((eL eB 1 false) ((leadsL l 0).getD i []))) (by kernel_rfl) (by rfl) (by intro j hj; rfl) hS
  exact q_v [∀ i, i < (leadsL l 0).length → D.p ((eL eB 1 false) ((leadsL l 0).getD i [])) = .p ((eL eB 1 false) ((leadsL l 0).getD i []))] [0, 1, 2, 3] [2, 3, 5, 15, 16] (al (fun _ _ => rfl) trivial) hS
 ·intro z hz
  revert z; intro n0 hz
  have hz : (n0 ≤ 12) := hz
  have hi0_0 := hz
  have hll := leadsL_len (l := l) (n := n0)
  have hlr := leadR_len (l := l) n0
  have hlg := leadsL_get (l := l) (Nat.le_refl n0)
  refine tr_seq (q_t [2, 3, 5, 15, 16, 17] [.ref 0 [], .ref 1 [], .ref 3 [], vint .i64 12, vint .i64 (n0 : Int), vbool (decide ((n0 : Int) < 12))] [.box (.p (eLang l)), .box (vint .i64 12), oL 29 (eL eB 1 false) 1 [] (leadsL l n0), .box (.own 2)] (tr_then (tr_seq (q_e ((n0 : Int) < 12) (fun hc1 => ?_) (fun hc1 => ?_)))))
  ·refine tr_skip (tr_then (tr_seq (tr_block (tr_seq (q_m [2, 3, 5, 6, 15, 16] [.ref 0 [], .ref 1 [], .ref 3 [], vint .i64 (n0 : Int), vint .i64 12, vint .i64 (n0 : Int)] (tr_then (tr_seq (q_s [(0 : Int) ≤ (l.Accept.length : Int), ((l.Accept.length : Int) : Int) ≤ (l.Accept.length : Int), (1 : Int) * (l.Accept.length : Int) ≤ 140737488355328, ((l.Accept.length : Int) : Int) ≤ 9223372036854775807] [2, 3, 5, 6, 7, 15, 16] [.ref 0 [], .ref 1 [], .ref 3 [], vint .i64 (n0 : Int), .own 4, vint .i64 12, vint .i64 (n0 : Int)] [.box (.p (eLang l)), .box (vint .i64 12), oL 29 (eL eB 1 false) 1 [] (leadsL l n0), .box (.own 2), .arr 4 1 l.Accept.length (fun _ => vbool false)] (al (by omega) (al (by omega) (al (by omega) (al (by omega) (trivial))))) (nm_pre (E' := [(2, none, .ref 0 []), (3, none, .ref 1 []), (5, none, .ref 3 []), (6, none, vint .i64 (n0 : Int)), (7, none, .own 4), (15, none, vint .i64 12), (16, none, vint .i64 (n0 : Int))]) (H' := [.box (.p (eLang l)), .box (vint .i64 12), oL 29 (eL eB 1 false) 1 [] (leadsL l n0), .box (.own 2), oL 4 eB 1 false (List.replicate l.Accept.length false)]) (fun _ _ => sl_arr (n := l.Accept.length) (n' := (List.replicate l.Accept.length false).length) (f := fun _ => vbool false) 4 (fun i => .p (eB ((List.replicate l.Accept.length false).getD i false))) (by kernel_rfl) (by simp) (by exact makeN (e := eB) (d := false))) (tr_then (tr_seq (tr_seq (q_m [2, 3, 5, 6, 7, 15, 16, 24, 25, 26] [.ref 0 [], .ref 1 [], .ref 3 [], vint .i64 (n0 : Int), .own 4, vint .i64 12, vint .i64 (n0 : Int), .p ((eL (eL eI 1 0) 1 []) l.Next), vint .i64 (l.Next.length : Int), vint .i64 0] (tr_then (tr_block (tr_loop (α := Nat) (fun z : Nat => (fun (k : Nat) => [(2, none, .ref 0 []), (3, none, .ref 1 []), (5, none, .ref 3 []), (6, none, vint .i64 (n0 : Int)), (7, none, .own 4), (15, none, vint .i64 12), (16, none, vint .i64 (n0 : Int)), (24, none, .p ((eL (eL eI 1 0) 1 []) l.Next)), (25, none, vint .i64 (l.Next.length : Int)), (26, none, vint .i64 (k : Int))]) z) (fun z : Nat => (fun (k : Nat) => [.box (.p (eLang l)), .box (vint .i64 12), oL 29 (eL eB 1 false) 1 [] (leadsL l n0), .box (.own 2), oL 4 eB 1 false (rowC l (leadR l n0) k 0)]) z) (fun z : Nat => (fun (k : Nat) => (k ≤ l.Next.length)) z) (fun z : Nat => (fun (k : Nat) => l.Next.length - k) z) 0 ?_ ?_ ?_))))))))))))))))
   ·show (0 ≤ l.Next.length)
    ·omega
   ·intro A_ W_ hS
    replace hS := q_a (d := vint .i64 0) 26 (vint .i64 ((0 : Nat) : Int)) (eqD_int (by omega)) hS
    replace hS := sl_arr (e := 4) (sz := 1) (n := (List.replicate l.Accept.length false).length) (n' := (rowC l (leadR l n0) 0 0).length) (f := (fun i => .p (eB ((List.replicate l.Accept.length false).getD i false)))) 4 (fun i => .p (eB ((rowC l (leadR l n0) 0 0).getD i false))) (by kernel_rfl) (by rw [rowC_start (l := l) (prev := leadR l n0)]) (by intro j hj; rw [rowC_start (l := l) (prev := leadR l n0)]) hS
    exact q_v [∀ i, i < (leadsL l n0).length → D.p ((eL eB 1 false) ((leadsL l n0).getD i [])) = .p ((eL eB 1 false) ((leadsL l n0).getD i [])), ∀ i, i < (rowC l (leadR l n0) 0 0).length → D.p (eB ((rowC l (leadR l n0) 0 0).getD i false)) = .p (eB ((rowC l (leadR l n0) 0 0).getD i false))] [0, 1, 2, 3, 4] [2, 3, 5, 6, 7, 15, 16, 24, 25, 26] (al (fun _ _ => rfl) (al (fun _ _ => rfl) trivial)) hS
   ·intro z hz
    revert z; intro k hz
    have hz : (k ≤ l.Next.length) := hz
    have hi1_0 := hz
    have hrow := f4 k
    refine tr_seq (q_t [2, 3, 5, 6, 7, 15, 16, 24, 25, 26, 27] [.ref 0 [], .ref 1 [], .ref 3 [], vint .i64 (n0 : Int), .own 4, vint .i64 12, vint .i64 (n0 : Int), .p ((eL (eL eI 1 0) 1 []) l.Next), vint .i64 (l.Next.length : Int), vint .i64 (k : Int), vbool (decide ((k : Int) < (l.Next.length : Int)))] [.box (.p (eLang l)), .box (vint .i64 12), oL 29 (eL eB 1 false) 1 [] (leadsL l n0), .box (.own 2), oL 4 eB 1 false (rowC l (leadR l n0) k 0)] (tr_then (tr_seq (q_e ((k : Int) < (l.Next.length : Int)) (fun hc2 => ?_) (fun hc2 => ?_)))))
    ·refine tr_skip (tr_then (tr_seq (tr_block (tr_seq (q_l [(0 : Int) ≤ (k : Int), (k : Int) < (l.Next.length : Int)] [2, 3, 5, 6, 7, 8, 9, 15, 16, 24, 25, 26] [.ref 0 [], .ref 1 [], .ref 3 [], vint .i64 (n0 : Int), .own 4, vint .i64 (k : Int), .p ((eL eI 1 0) (l.Next.getD k [])), vint .i64 12, vint .i64 (n0 : Int), .p ((eL (eL eI 1 0) 1 []) l.Next), vint .i64 (l.Next.length : Int), vint .i64 (k : Int)] (al (by omega) (al (by omega) (trivial))) (tr_then (tr_seq (q_m [2, 3, 5, 6, 7, 8, 15, 16, 24, 25, 26, 31, 32, 33] [.ref 0 [], .ref 1 [], .ref 3 [], vint .i64 (n0 : Int), .own 4, vint .i64 (k : Int), vint .i64 12, vint .i64 (n0 : Int), .p ((eL (eL eI 1 0) 1 []) l.Next), vint .i64 (l.Next.length : Int), vint .i64 (k : Int), .p ((eL eI 1 0) (l.Next.getD k [])), vint .i64 (((l.Next.getD k []).length : Nat) : Int), vint .i64 0] (tr_then (tr_block (tr_loop (α := Nat) (fun z : Nat => (fun (c : Nat) => [(2, none, .ref 0 []), (3, none, .ref 1 []), (5, none, .ref 3 []), (6, none, vint .i64 (n0 : Int)), (7, none, .own 4), (8, none, vint .i64 (k : Int)), (15, none, vint .i64 12), (16, none, vint .i64 (n0 : Int)), (24, none, .p ((eL (eL eI 1 0) 1 []) l.Next)), (25, none, vint .i64 (l.Next.length : Int)), (26, none, vint .i64 (k : Int)), (31, none, .p ((eL eI 1 0) (l.Next.getD k []))), (32, none, vint .i64 (((l.Next.getD k []).length : Nat) : Int)), (33, none, vint .i64 (c : Int))]) z) (fun z : Nat => (fun (c : Nat) => [.box (.p (eLang l)), .box (vint .i64 12), oL 29 (eL eB 1 false) 1 [] (leadsL l n0), .box (.own 2), oL 4 eB 1 false (rowC l (leadR l n0) k c)]) z) (fun z : Nat => (fun (c : Nat) => (c ≤ (l.Next.getD k []).length)) z) (fun z : Nat => (fun (c : Nat) => (l.Next.getD k []).length - c) z) 0 ?_ ?_ ?_)))))))))))
     ·show (0 ≤ (l.Next.getD k []).length)
      ·omega
     ·intro A_ W_ hS
      replace hS := q_a (d := vint .i64 0) 33 (vint .i64 ((0 : Nat) : Int)) (eqD_int (by omega)) hS
      exact q_v [∀ i, i < (leadsL l n0).length → D.p ((eL eB 1 false) ((leadsL l n0).getD i [])) = .p ((eL eB 1 false) ((leadsL l n0).getD i [])), ∀ i, i < (rowC l (leadR l n0) k 0).length → D.p (eB ((rowC l (leadR l n0) k 0).getD i false)) = .p (eB ((rowC l (leadR l n0) k 0).getD i false))] [0, 1, 2, 3, 4] [2, 3, 5, 6, 7, 8, 15, 16, 24, 25, 26, 31, 32, 33] (al (fun _ _ => rfl) (al (fun _ _ => rfl) trivial)) hS
     ·intro z hz
      revert z; intro c hz
      have hz : (c ≤ (l.Next.getD k []).length) := hz
      have hi2_0 := hz
      have hrl := rowC_len (l := l) (prev := leadR l n0) (k := k) (c := c)
      have hw := (hrow (by omega)).1
      have hr2 := (hrow (by omega)).2 c
      have hcd : l.Next.length = l.Accept.length := f3
      refine tr_seq (q_t [2, 3, 5, 6, 7, 8, 15, 16, 24, 25, 26, 31, 32, 33, 34] [.ref 0 [], .ref 1 [], .ref 3 [], vint .i64 (n0 : Int), .own 4, vint .i64 (k : Int), vint .i64 12, vint .i64 (n0 : Int), .p ((eL (eL eI 1 0) 1 []) l.Next), vint .i64 (l.Next.length : Int), vint .i64 (k : Int), .p ((eL eI 1 0) (l.Next.getD k [])), vint .i64 (((l.Next.getD k []).length : Nat) : Int), vint .i64 (c : Int), vbool (decide ((c : Int) < (((l.Next.getD k []).length : Nat) : Int)))] [.box (.p (eLang l)), .box (vint .i64 12), oL 29 (eL eB 1 false) 1 [] (leadsL l n0), .box (.own 2), oL 4 eB 1 false (rowC l (leadR l n0) k c)] (tr_then (tr_seq (q_e ((c : Int) < (((l.Next.getD k []).length : Nat) : Int)) (fun hc3 => ?_) (fun hc3 => ?_)))))
      ·refine tr_skip (tr_then (tr_seq (tr_block (tr_seq (q_l [(0 : Int) ≤ (c : Int), (c : Int) < ((l.Next.getD k []).length : Int)] [2, 3, 5, 6, 7, 8, 11, 15, 16, 24, 25, 26, 31, 32, 33] [.ref 0 [], .ref 1 [], .ref 3 [], vint .i64 (n0 : Int), .own 4, vint .i64 (k : Int), vint .i64 ((l.Next.getD k []).getD c 0), vint .i64 12, vint .i64 (n0 : Int), .p ((eL (eL eI 1 0) 1 []) l.Next), vint .i64 (l.Next.length : Int), vint .i64 (k : Int), .p ((eL eI 1 0) (l.Next.getD k [])), vint .i64 (((l.Next.getD k []).length : Nat) : Int), vint .i64 (c : Int)] (al (by omega) (al (by omega) (trivial))) (tr_then (q_s [(0 : Int) ≤ (k : Int), (k : Int) < ((rowC l (leadR l n0) k c).length : Int), k < (rowC l (leadR l n0) k c).length, (!((rowC l (leadR l n0) k c).getD k false)) = true → (!((rowC l (leadR l n0) k c).getD k false)) = true, (!((rowC l (leadR l n0) k c).getD k false)) = true → (!((rowC l (leadR l n0) k c).getD k false)) = true, ((!((rowC l (leadR l n0) k c).getD k false)) && (decide (0 ≤ ((l.Next.getD k []).getD c 0)))) = true → ((!((rowC l (leadR l n0) k c).getD k false)) && (decide (0 ≤ ((l.Next.getD k []).getD c 0)))) = true, ((!((rowC l (leadR l n0) k c).getD k false)) && (decide (0 ≤ ((l.Next.getD k []).getD c 0)))) = true → ((!((rowC l (leadR l n0) k c).getD k false)) && (decide (0 ≤ ((l.Next.getD k []).getD c 0)))) = true, ((!((rowC l (leadR l n0) k c).getD k false)) && (decide (0 ≤ ((l.Next.getD k []).getD c 0)))) = true → ((0 : Int) ≤ (n0 : Int)), ((!((rowC l (leadR l n0) k c).getD k false)) && (decide (0 ≤ ((l.Next.getD k []).getD c 0)))) = true → ((n0 : Int) < ((leadsL l n0).length : Int)), ((!((rowC l (leadR l n0) k c).getD k false)) && (decide (0 ≤ ((l.Next.getD k []).getD c 0)))) = true → ((!((rowC l (leadR l n0) k c).getD k false)) && (decide (0 ≤ ((l.Next.getD k []).getD c 0)))) = true, ((!((rowC l (leadR l n0) k c).getD k false)) && (decide (0 ≤ ((l.Next.getD k []).getD c 0)))) = true → (n0 < (leadsL l n0).length), ((!((rowC l (leadR l n0) k c).getD k false)) && (decide (0 ≤ ((l.Next.getD k []).getD c 0)))) = true → ((!((rowC l (leadR l n0) k c).getD k false)) && (decide (0 ≤ ((l.Next.getD k []).getD c 0)))) = true, ((!((rowC l (leadR l n0) k c).getD k false)) && (decide (0 ≤ ((l.Next.getD k []).getD c 0)))) = true → ((!((rowC l (leadR l n0) k c).getD k false)) && (decide (0 ≤ ((l.Next.getD k []).getD c 0)))) = true, ((!((rowC l (leadR l n0) k c).getD k false)) && (decide (0 ≤ ((l.Next.getD k []).getD c 0)))) = true → ((0 : Int) ≤ ((l.Next.getD k []).getD c 0)), ((!((rowC l (leadR l n0) k c).getD k false)) && (decide (0 ≤ ((l.Next.getD k []).getD c 0)))) = true → (((l.Next.getD k []).getD c 0) < (((leadsL l n0).getD n0 []).length : Int)), ((!((rowC l (leadR l n0) k c).getD k false)) && (decide (0 ≤ ((l.Next.getD k []).getD c 0)))) = true → ((!((rowC l (leadR l n0) k c).getD k false)) && (decide (0 ≤ ((l.Next.getD k []).getD c 0)))) = true, (!((rowC l (leadR l n0) k c).getD k false)) = true → ((!((rowC l (leadR l n0) k c).getD k false)) = true → (!((rowC l (leadR l n0) k c).getD k false)) = true), ((!((rowC l (leadR l n0) k c).getD k false)) && (decide (0 ≤ ((l.Next.getD k []).getD c 0)))) = true → ((!((rowC l (leadR l n0) k c).getD k false)) && (decide (0 ≤ ((l.Next.getD k []).getD c 0)))) = true, (!((rowC l (leadR l n0) k c).getD k false)) = true → (!((rowC l (leadR l n0) k c).getD k false)) = true, (0 : Int) ≤ (k : Int), (k : Int) < ((rowC l (leadR l n0) k c).length : Int), k < (rowC l (leadR l n0) k c).length] [2, 3, 5, 6, 7, 8, 15, 16, 24, 25, 26, 31, 32, 33] [.ref 0 [], .ref 1 [], .ref 3 [], vint .i64 (n0 : Int), .own 4, vint .i64 (k : Int), vint .i64 12, vint .i64 (n0 : Int), .p ((eL (eL eI 1 0) 1 []) l.Next), vint .i64 (l.Next.length : Int), vint .i64 (k : Int), .p ((eL eI 1 0) (l.Next.getD k [])), vint .i64 (((l.Next.getD k []).length : Nat) : Int), vint .i64 (c : Int)] [.box (.p (eLang l)), .box (vint .i64 12), oL 29 (eL eB 1 false) 1 [] (leadsL l n0), .box (.own 2), .arr 4 1 ((rowC l (leadR l n0) k c).length) (upd (fun i => .p (eB ((rowC l (leadR l n0) k c).getD i false))) k (vbool (((rowC l (leadR l n0) k c).getD k false) || ((decide (0 ≤ ((l.Next.getD k []).getD c 0))) && (((leadsL l n0).getD n0 []).getD (((l.Next.getD k []).getD c 0).toNat) false)))))] (al (by omega) (al (by omega) (al (by omega) (al id (al id (al id (al id (al (by omega) (al (by omega) (al id (al (by omega) (al id (al id (al (by simp; done) (al (by grind) (al id (al (by intro _; exact id) (al id (al id (al (by omega) (al (by omega) (al (by omega) (trivial))))))))))))))))))))))) (nm_pre (E' := [(2, none, .ref 0 []), (3, none, .ref 1 []), (5, none, .ref 3 []), (6, none, vint .i64 (n0 : Int)), (7, none, .own 4), (8, none, vint .i64 (k : Int)), (15, none, vint .i64 12), (16, none, vint .i64 (n0 : Int)), (24, none, .p ((eL (eL eI 1 0) 1 []) l.Next)), (25, none, vint .i64 (l.Next.length : Int)), (26, none, vint .i64 (k : Int)), (31, none, .p ((eL eI 1 0) (l.Next.getD k []))), (32, none, vint .i64 (((l.Next.getD k []).length : Nat) : Int)), (33, none, vint .i64 (c : Int))]) (H' := [.box (.p (eLang l)), .box (vint .i64 12), oL 29 (eL eB 1 false) 1 [] (leadsL l n0), .box (.own 2), oL 4 eB 1 false ((rowC l (leadR l n0) k c).set k (((rowC l (leadR l n0) k c).getD k false) || ((decide (0 ≤ ((l.Next.getD k []).getD c 0))) && (((leadsL l n0).getD n0 []).getD (((l.Next.getD k []).getD c 0).toNat) false))))]) (fun _ _ => sl_arr (n := ((rowC l (leadR l n0) k c).length)) (n' := ((rowC l (leadR l n0) k c).set k (((rowC l (leadR l n0) k c).getD k false) || ((decide (0 ≤ ((l.Next.getD k []).getD c 0))) && (((leadsL l n0).getD n0 []).getD (((l.Next.getD k []).getD c 0).toNat) false)))).length) (f := upd (fun i => .p (eB ((rowC l (leadR l n0) k c).getD i false))) k (vbool (((rowC l (leadR l n0) k c).getD k false) || ((decide (0 ≤ ((l.Next.getD k []).getD c 0))) && (((leadsL l n0).getD n0 []).getD (((l.Next.getD k []).getD c 0).toNat) false))))) 4 (fun i => .p (eB (((rowC l (leadR l n0) k c).set k (((rowC l (leadR l n0) k c).getD k false) || ((decide (0 ≤ ((l.Next.getD k []).getD c 0))) && (((leadsL l n0).getD n0 []).getD (((l.Next.getD k []).getD c 0).toNat) false)))).getD i false))) (by kernel_rfl) (by simp) (by exact setN)) (in_n (tr_then (q_k [(IntKind.wrap .i64 ((c : Int) + 1)) = (((c + 1) : Nat) : Int)] [2, 3, 5, 6, 7, 8, 15, 16, 24, 25, 26, 31, 32, 33] [.ref 0 [], .ref 1 [], .ref 3 [], vint .i64 (n0 : Int), .own 4, vint .i64 (k : Int), vint .i64 12, vint .i64 (n0 : Int), .p ((eL (eL eI 1 0) 1 []) l.Next), vint .i64 (l.Next.length : Int), vint .i64 (k : Int), .p ((eL eI 1 0) (l.Next.getD k [])), vint .i64 (((l.Next.getD k []).length : Nat) : Int), vint .i64 (((c + 1) : Nat) : Int)] [(0, vint .i64 (((c + 1) : Nat) : Int))] [] (al (wr64 (by omega) (by omega) (by omega)) (trivial)) (lp_end (c + 1) ?_ ?_ ?_))))))))))))
       ·show ((c + 1) ≤ (l.Next.getD k []).length)
        ·omega
       ·show (l.Next.getD k []).length - (c + 1) < (l.Next.getD k []).length - c
        omega
       ·intro A_ W_ hS
        replace hS := sl_arr (e := 4) (sz := 1) (n := ((rowC l (leadR l n0) k c).set k (((rowC l (leadR l n0) k c).getD k false) || ((decide (0 ≤ ((l.Next.getD k []).getD c 0))) && (((leadsL l n0).getD n0 []).getD (((l.Next.getD k []).getD c 0).toNat) false)))).length) (n' := (rowC l (leadR l n0) k (c + 1)).length) (f := (fun i => .p (eB (((rowC l (leadR l n0) k c).set k (((rowC l (leadR l n0) k c).getD k false) || ((decide (0 ≤ ((l.Next.getD k []).getD c 0))) && (((leadsL l n0).getD n0 []).getD (((l.Next.getD k []).getD c 0).toNat) false)))).getD i false)))) 4 (fun i => .p (eB ((rowC l (leadR l n0) k (c + 1)).getD i false))) (by kernel_rfl) (by rw [rowC_get (by omega), hlg, rowC_set (by omega)]) (by intro j hj; rw [rowC_get (by omega), hlg, rowC_set (by omega)]) hS
        exact q_v [∀ i, i < (leadsL l n0).length → D.p ((eL eB 1 false) ((leadsL l n0).getD i [])) = .p ((eL eB 1 false) ((leadsL l n0).getD i [])), ∀ i, i < (rowC l (leadR l n0) k (c + 1)).length → D.p (eB ((rowC l (leadR l n0) k (c + 1)).getD i false)) = .p (eB ((rowC l (leadR l n0) k (c + 1)).getD i false))] [0, 1, 2, 3, 4] [2, 3, 5, 6, 7, 8, 15, 16, 24, 25, 26, 31, 32, 33] (al (fun _ _ => rfl) (al (fun _ _ => rfl) trivial)) hS
      ·refine tr_exit (th_e (th_e (in_hit (in_n (tr_then (q_k [(IntKind.wrap .i64 ((k : Int) + 1)) = (((k + 1) : Nat) : Int)] [2, 3, 5, 6, 7, 15, 16, 24, 25, 26] [.ref 0 [], .ref 1 [], .ref 3 [], vint .i64 (n0 : Int), .own 4, vint .i64 12, vint .i64 (n0 : Int), .p ((eL (eL eI 1 0) 1 []) l.Next), vint .i64 (l.Next.length : Int), vint .i64 (((k + 1) : Nat) : Int)] [(0, vint .i64 (((k + 1) : Nat) : Int))] [] (al (wr64 (by omega) (by omega) (by omega)) (trivial)) (lp_end (k + 1) ?_ ?_ ?_)))))))
       ·show ((k + 1) ≤ l.Next.length)
        ·omega
       ·show l.Next.length - (k + 1) < l.Next.length - k
        omega
       ·intro A_ W_ hS
        replace hS := sl_arr (e := 4) (sz := 1) (n := (rowC l (leadR l n0) k c).length) (n' := (rowC l (leadR l n0) (k + 1) 0).length) (f := (fun i => .p (eB ((rowC l (leadR l n0) k c).getD i false)))) 4 (fun i => .p (eB ((rowC l (leadR l n0) (k + 1) 0).getD i false))) (by kernel_rfl) (by rw [rowC_len, rowC_len]) (by intro j hj; rw [show c = (l.Next.getD k []).length by omega, rowC_next]) hS
        exact q_v [∀ i, i < (leadsL l n0).length → D.p ((eL eB 1 false) ((leadsL l n0).getD i [])) = .p ((eL eB 1 false) ((leadsL l n0).getD i [])), ∀ i, i < (rowC l (leadR l n0) (k + 1) 0).length → D.p (eB ((rowC l (leadR l n0) (k + 1) 0).getD i false)) = .p (eB ((rowC l (leadR l n0) (k + 1) 0).getD i false))] [0, 1, 2, 3, 4] [2, 3, 5, 6, 7, 15, 16, 24, 25, 26] (al (fun _ _ => rfl) (al (fun _ _ => rfl) trivial)) hS
    ·refine tr_exit (th_e (th_e (in_hit (tr_then (tr_pre (E' := [(2, none, .ref 0 []), (3, none, .ref 1 []), (5, none, .ref 3 []), (6, none, vint .i64 (n0 : Int)), (7, none, .p ((eL eB 1 false) (rowC l (leadR l n0) k 0))), (15, none, vint .i64 12), (16, none, vint .i64 (n0 : Int)), (24, none, .p ((eL (eL eI 1 0) 1 []) l.Next)), (25, none, vint .i64 (l.Next.length : Int)), (26, none, vint .i64 (k : Int)), (27, none, vbool (decide ((k : Int) < (l.Next.length : Int))))]) (H' := [.box (.p (eLang l)), .box (vint .i64 12), oL 29 (eL eB 1 false) 1 [] (leadsL l n0), .box (.own 2), .dead]) (fun _ _ => sl_freeze (vc := [∀ j, j < (rowC l (leadR l n0) k 0).length → D.p (eB ((rowC l (leadR l n0) k 0).getD j false)) = .p ((fun j => eB ((rowC l (leadR l n0) k 0).getD j false)) j), ∀ i, i < (leadsL l n0).length → D.p ((eL eB 1 false) ((leadsL l n0).getD i [])) = .p ((eL eB 1 false) ((leadsL l n0).getD i []))]) 4 (fun j => eB ((rowC l (leadR l n0) k 0).getD j false)) (by kernel_rfl) (al (fun _ _ => rfl) (al (fun _ _ => rfl) trivial))) (q_r [∀ j, j < 1 → ([(eL eB 1 false) (rowC l (leadR l n0) k 0)] : List PV).getD j default = (fun i => (eL eB 1 false) (([(rowC l (leadR l n0) k 0)]).getD i [])) j, (((leadsL l n0).length) + (([(rowC l (leadR l n0) k 0)]).length)) * 24 ≤ 140737488355328] [2, 3, 5, 15, 16] [.ref 0 [], .ref 1 [], .ref 3 [], vint .i64 12, vint .i64 (n0 : Int)] [.box (.p (eLang l)), .box (vint .i64 12), .dead, .box (.own 5), .dead, .arr 29 1 ((leadsL l n0).length + ([(rowC l (leadR l n0) k 0)]).length) (appF (fun i => .p ((eL eB 1 false) ((leadsL l n0).getD i []))) ((leadsL l n0).length) (fun j => .p ((eL eB 1 false) (([(rowC l (leadR l n0) k 0)]).getD j []))))] [] [(2, .p ((eL (eL eB 1 false) 1 []) ([(rowC l (leadR l n0) k 0)])))] (al (lit_pv (e := (eL eB 1 false)) (d := []) (l := [(rowC l (leadR l n0) k 0)])) (al (by simp_all; omega) (trivial))) (nm_pre (E' := [(2, none, .ref 0 []), (3, none, .ref 1 []), (5, none, .ref 3 []), (15, none, vint .i64 12), (16, none, vint .i64 (n0 : Int))]) (H' := [.box (.p (eLang l)), .box (vint .i64 12), .dead, .box (.own 5), .dead, oL 29 (eL eB 1 false) 1 [] ((leadsL l n0) ++ ([(rowC l (leadR l n0) k 0)]))]) (fun _ _ => sl_arr (n := ((leadsL l n0).length + ([(rowC l (leadR l n0) k 0)]).length)) (n' := ((leadsL l n0) ++ ([(rowC l (leadR l n0) k 0)])).length) (f := appF (fun i => .p ((eL eB 1 false) ((leadsL l n0).getD i []))) ((leadsL l n0).length) (fun j => .p ((eL eB 1 false) (([(rowC l (leadR l n0) k 0)]).getD j [])))) 5 (fun i => .p ((eL eB 1 false) (((leadsL l n0) ++ ([(rowC l (leadR l n0) k 0)])).getD i []))) (by kernel_rfl) (by simp) (by first | exact appN | exact nilN | exact app0 | exact nilV _)) (in_n (tr_then (q_k [(IntKind.wrap .i64 ((n0 : Int) + 1)) = (((n0 + 1) : Nat) : Int)] [2, 3, 5, 15, 16] [.ref 0 [], .ref 1 [], .ref 3 [], vint .i64 12, vint .i64 (((n0 + 1) : Nat) : Int)] [(0, vint .i64 (((n0 + 1) : Nat) : Int))] [] (al (wr64 (by omega) (by omega) (by omega)) (trivial)) (lp_end (n0 + 1) ?_ ?_ ?_)))))))))))
     ·show ((n0 + 1) ≤ 12)
      ·omega
     ·show 12 - (n0 + 1) < 12 - n0
      omega
     ·intro A_ W_ hS
      replace hS := sl_arr (e := 29) (sz := 1) (n := ((leadsL l n0) ++ ([(rowC l (leadR l n0) k 0)])).length) (n' := (leadsL l (n0 + 1)).length) (f := (fun i => .p ((eL eB 1 false) (((leadsL l n0) ++ ([(rowC l (leadR l n0) k 0)])).getD i [])))) 5 (fun i => .p ((eL eB 1 false) ((leadsL l (n0 + 1)).getD i []))) (by kernel_rfl) (by rw [List.length_append, leadsL_len, leadsL_len]; rfl) (by intro j hj; rw [show k = l.Next.length by omega, ← leadsL_next]; rfl) hS
      exact q_v [∀ i, i < (leadsL l (n0 + 1)).length → D.p ((eL eB 1 false) ((leadsL l (n0 + 1)).getD i [])) = .p ((eL eB 1 false) ((leadsL l (n0 + 1)).getD i []))] [0, 1, 5, 3] [2, 3, 5, 15, 16] (al (fun _ _ => rfl) trivial) hS
  ·refine tr_exit (th_e (th_e (in_hit (tr_then (tr_seq (tr_pre (E' := [(2, none, .ref 0 []), (3, none, .ref 1 []), (5, none, .ref 3 []), (15, none, vint .i64 12), (16, none, vint .i64 (n0 : Int)), (17, none, vbool (decide ((n0 : Int) < 12)))]) (H' := [.box (.p (eLang l)), .box (vint .i64 12), .dead, .box (.p ((eL (eL eB 1 false) 1 []) (leadsL l n0)))]) (fun _ _ => sl_freeze (vc := [∀ j, j < (leadsL l n0).length → D.p ((eL eB 1 false) ((leadsL l n0).getD j [])) = .p ((fun j => (eL eB 1 false) ((leadsL l n0).getD j [])) j)]) 2 (fun j => (eL eB 1 false) ((leadsL l n0).getD j [])) (by kernel_rfl) (al (fun _ _ => rfl) trivial)) (tr_pre (E' := [(2, none, .ref 0 []), (3, none, .ref 1 []), (5, none, .p (.pel ((eL (eL eB 1 false) 1 []) (leadsL l n0)))), (15, none, vint .i64 12), (16, none, vint .i64 (n0 : Int)), (17, none, vbool (decide ((n0 : Int) < 12)))]) (H' := [.box (.p (eLang l)), .box (vint .i64 12), .dead, .dead]) (fun _ _ => sl_freezeB (vc := []) 3 (by kernel_rfl) trivial) (tr_pre (E' := [(2, none, .p (.pel (eLang l))), (3, none, .ref 1 []), (5, none, .p (.pel ((eL (eL eB 1 false) 1 []) (leadsL l n0)))), (15, none, vint .i64 12), (16, none, vint .i64 (n0 : Int)), (17, none, vbool (decide ((n0 : Int) < 12)))]) (H' := [.dead, .box (vint .i64 12), .dead, .dead]) (fun _ _ => sl_freezeB (vc := []) 0 (by kernel_rfl) trivial) (tr_pre (E' := [(2, none, .p (.pel (eLang l))), (3, none, .p (.pel (.v (.int .i64 12)))), (5, none, .p (.pel ((eL (eL eB 1 false) 1 []) (leadsL l n0)))), (15, none, vint .i64 12), (16, none, vint .i64 (n0 : Int)), (17, none, vbool (decide ((n0 : Int) < 12)))]) (H' := [.dead, .dead, .dead, .dead]) (fun _ _ => sl_freezeB (vc := []) 1 (by kernel_rfl) trivial) (q_m [4] [.fn 49 [.p (.pel ((eL (eL eB 1 false) 1 []) (leadsL l n0))), .p (.pel (eLang l)), .p (.pel (.v (.int .i64 12)))]] (tr_then (tr_pre (E' := [(4, none, .fn 49 [.p (.pel ((eL (eL eB 1 false) 1 []) (leadsL l n0))), .p (.pel (eLang l)), .p (.pel (.v (.int .i64 12)))])]) (H' := []) (fun _ _ h => q_w [] [4] h) (q_i (d := .fn 49 [.p (.pel ((eL (eL eB 1 false) 1 []) (leadsL l n0))), .p (.pel (eLang l)), .p (.pel (.v (.int .i64 12)))]) 4 (.fn 49 [.p (.pel ((eL (eL eB 1 false) 1 []) (leadsL l 12))), .p (.pel (eLang l)), .p (.pel (.v (.int .i64 12)))]) ?_ ?_)))))))))))))
   ·refine imp_eq ?_
    rw [show n0 = 12 by omega]
   exact q_z [.fn 49 [.p (.pel ((eL (eL eB 1 false) 1 []) (leadsL l 12))), .p (.pel (eLang l)), .p (.pel (.v (.int .i64 12)))]] (fun _ _ h => h)
end Go.Proofs.Ytjnjmnfacaakfaa
namespace Go.Eng
open Go.RowKit
structure QS (N : Nat) (F : PHeap) (E : Env) (G : World → Prop) (a : Act) (w : World) : Prop where
 e : SLE F noG E a
 n : a.tmps.size = N
 d : a.defers = []
 s : Sub F w
 g : G w
def TrQ (P : Program) (N : Nat) (F : PHeap) (c : Code) (E : Env) (G : World → Prop) (Q : Exit → Act → World → Prop) : Prop := ∀ a w, QS N F E G a w → c.wp P Q a w
def Drawn (G : World → Prop) : Prop := ∀ w : World, G w → G { w with drawn := w.drawn + 1 }
section
variable {P : Program} {N : Nat} {F : PHeap} {E E' : Env} {G : World → Prop} {Q : Exit → Act → World → Prop} {a : Act} {w : World}
theorem qs_slh (h : Sub F w) : SLH ⟨P, w, F, [], N⟩ F noG [] w := slh_base h
theorem tq_seq {x y : Code} (h : TrQ P N F x E G (Exit.then (y.wp P Q) Q)) : TrQ P N F (.seq x y) E G Q := fun a w hs => wp_seq (h a w hs)
theorem tq_then {y : Code} (h : TrQ P N F y E G Q) : ∀ a w, QS N F E G a w → Exit.then (y.wp P Q) Q .normal a w := h
theorem tq_reg {l : List Oper} {id : Nat} {vc} (hs : List (Nat × D)) (ts : List Nat) (h : regQ P N l [] hs ts E = some (vc, E')) (hvc : all vc) (hk : ∀ a w, QS N F E' G a w → Q .normal a w) : TrQ P N F (.region id l.toArray false) E G Q := by
 intro a w hS
 unfold regQ at h
 split at h
 ·rename_i vc1 E1 h1
  split at h
  ·rename_i E2 h2
   simp only [Option.some.injEq, Prod.mk.injEq] at h
   obtain ⟨rfl, rfl⟩ := h
   refine wp_region_lit ?_
   exact runQ_plain (qs_slh (P := P) (N := N) hS.s) hS.e hS.n h1 hvc fun a' k1 k2 k3 => hk a' w ⟨sle_proj h2 k1, k2, k3.trans hS.d, hS.s, hS.g⟩
  ·cases h
 ·cases h
theorem tq_cond {t : Nat} {x y : Code} (b : Bool) (hb : E.get t = some (none, .p (.v (.bool b)))) (ht : b = true → TrQ P N F x E G Q) (hf : b = false → TrQ P N F y E G Q) : TrQ P N F (.cond (.tmp t) x y) E G Q := by
 intro a w hS
 cases b with
 | true => exact wp_cond_true (eval_cond hS.e hb) (ht rfl a w hS)
 | false => exact wp_cond_false (eval_cond hS.e hb) (hf rfl a w hS)
theorem tq_skip (h : ∀ a w, QS N F E G a w → Q .normal a w) : TrQ P N F .skip E G Q := fun a w hS => wp_skip (h a w hS)
theorem tq_exit {id : Nat} (h : ∀ a w, QS N F E G a w → Q (.exit id) a w) : TrQ P N F (.exit id) E G Q := fun a w hS => wp_exit (h a w hS)
theorem tq_ret (h : ∀ a w, QS N F E G a w → Q .ret a w) : TrQ P N F .ret E G Q := fun a w hS => wp_ret (h a w hS)
theorem tq_block {id : Nat} {c : Code} (h : TrQ P N F c E G (Exit.inBlock id Q)) : TrQ P N F (.block id c) E G Q := fun a w hS => wp_block (h a w hS)
theorem tq_loop {α : Type} {c : Code} (E1 : α → Env) (G1 : α → World → Prop) (inv : α → Prop) (μ : α → Nat) (x0 : α) (h0 : inv x0) (hE : ∀ a w, QS N F E G a w → QS N F (E1 x0) (G1 x0) a w)
  (round : ∀ x, inv x → TrQ P N F c (E1 x) (G1 x) (Exit.then (fun a w => ∃ y, inv y ∧ μ y < μ x ∧ QS N F (E1 y) (G1 y) a w) Q)) : TrQ P N F (.loop c) E G Q := by
 intro a w hS
 refine wp_loop_ghost (fun n a w => ∃ x, inv x ∧ μ x = n ∧ QS N F (E1 x) (G1 x) a w) (μ x0) ⟨x0, h0, rfl, hE a w hS⟩ ?_
 rintro n a w ⟨x, hx, rfl, hS⟩
 refine wp_mono (round x hx a w hS) fun e a' w' h => ?_
 cases e with
 | normal => obtain ⟨y, h1, h2, h3⟩ := h; exact ⟨μ y, h2, y, h1, rfl, h3⟩
 | _ => exact h
theorem tq_still {l : List Oper} {id : Nat} {vc} (n : Nat) (hs : List (Nat × D)) (hm : P.follows .mixedOrders = true) (hB : Region.lexTailB .any l.toArray n = true)
  (h : runQ P N l.toArray [] hs 0 (l.take n) E = some (vc, E')) (hvc : all vc) (hG : Drawn G) (hk : ∀ a w, QS N F E' G a w → wpList P l.toArray Q (l.drop n) a w) : TrQ P N F (.region id l.toArray true) E G Q := by
 intro a w hS
 refine wp_region_still_tail n hm hB ?_
 have hs' : Sub F { w with drawn := w.drawn + 1 } := hS.s
 exact runQ_still (qs_slh (P := P) (N := N) hs') hS.e hS.n h hvc fun a' k1 k2 k3 => hk a' _ ⟨k1, k2, k3.trans hS.d, hs', hG w hS.g⟩
theorem qs_proj {ts : List Nat} (h : proj E ts = some E') (hS : QS N F E G a w) : QS N F E' G a w := ⟨sle_proj h hS.e, hS.n, hS.d, hS.s, hS.g⟩
theorem qs_set {d : D} (t : Nat) (d' : D) (ht : E.get t = some (none, d)) (h : eqD d d') (hS : QS N F E G a w) : QS N F ((t, none, d') :: E) G a w := by
 refine ⟨fun u g d0 hu => ?_, hS.n, hS.d, hS.s, hS.g⟩
 simp only [Env.get] at hu
 cases hb : Nat.beq t u with
 | true =>
  rw [hb] at hu
  simp only [cond_true, Option.some.injEq, Prod.mk.injEq] at hu
  obtain ⟨rfl, rfl⟩ := hu
  rw [← Nat.eq_of_beq_eq_true hb]
  obtain ⟨h1, h2⟩ := hS.e _ _ _ ht
  refine ⟨fun hg => ?_, h2⟩
  obtain ⟨v, k1, k2⟩ := h1 hg
  exact ⟨v, k1, eqD_rel h k2⟩
 | false => rw [hb] at hu; exact hS.e u g d0 hu
theorem qs_g {G' : World → Prop} (h : ∀ w, G w → G' w) (hS : QS N F E G a w) : QS N F E G' a w := ⟨hS.e, hS.n, hS.d, hS.s, h w hS.g⟩
theorem qs_slot {t : Nat} {d : D} (h : E.get t = some (none, d)) (hS : QS N F E G a w) : ∃ v, a.tmps[t]? = some v ∧ RelV F noG d v := (hS.e _ _ _ h).1 trivial
/-! ### Calls of function values -/
theorem run_closure {ρ : Operand → Value} {o : Oper} {x : Operand} {f : FuncId} {args : Array Operand} {ts : Array TypeId} {caps : Array Value} (ho : o.op = .call ⟨.value x, args, ts⟩) (hx : ρ x = .func (.func f) #[] caps) (hf : callable P f = true) (w : World) :
  (execOp ρ o).run P w = .ok (.enter f (args.map ρ ++ caps)) w := by
 have := run_callFunc hf (args.map ρ ++ caps) w
 simp [execOp, ho, resolve, Deferred.ofValue, hx, invoke, this]
theorem run_yield_op {ρ : Operand → Value} {o : Oper} {x : Operand} {l : Nat} {args : Array Operand} {ts : Array TypeId} (ho : o.op = .call ⟨.value x, args, ts⟩) (hx : ρ x = .func (.yield l) #[] #[]) {r : Next} {w w' : World}
  (h : (Instr.yield l (args.map ρ)).run P w = .ok r w') : (execOp ρ o).run P w = .ok r w' := by
 simp [execOp, ho, resolve, Deferred.ofValue, hx, invoke, h]
theorem wl_call {ops : Array Oper} {o : Oper} {rest : List Oper} {x : Operand} {f : FuncId} {args : Array Operand} {ts : Array TypeId} {t : Nat} {b : Bool} {K : Bool → World → Prop}
  (ho : o.op = .call ⟨.value x, args, ts⟩) (hd : o.dst = some t) (he : execCond ops E o = some (some b)) (hS : QS N F E G a w) (hf : callable P f = true)
  (hyes : b = true → ∃ caps, a.eval x = .func (.func f) #[] caps ∧ Calls P f (args.map a.eval ++ caps) w fun e w' => ∃ r, e = .returned (.bool r) ∧ K r w')
  (hk1 : b = true → ∀ r w', K r w' → wpList P ops Q rest (a.put (some t) (.bool r)) w') (hk0 : b = false → wpList P ops Q rest (a.put (some t) undef) w) : wpList P ops Q (o :: rest) a w := by
 have hw := wanted_iff hS.e he
 unfold wpList
 cases b with
 | true =>
  rw [if_pos (hw.2 rfl)]
  obtain ⟨caps, h1, h2⟩ := hyes rfl
  unfold Oper.wp
  rw [run_closure ho h1 hf w]
  refine .inl (h2.mono ?_)
  rintro e w' ⟨r, rfl, hK⟩
  rw [← hd] at hk1
  exact hk1 rfl r w' hK
 | false =>
  rw [if_neg (fun h => by have := hw.1 h; simp [on] at this), hd]
  exact hk0 rfl
theorem runQ_listIn {m : Nat} {ops : Array Oper} {hs : List (Nat × D)} {rest : List Oper} (hS : Sub F w) : ∀ {l : List Oper} {i : Nat} {E E' : Env} {a : Act} {vc}, SLE F noG E a → a.tmps.size = N → runQ P N ops [] hs i l E = some (vc, E') → all vc →
  (∀ a' : Act, SLE F noG E' a' → a'.tmps.size = N → a'.defers = a.defers → wpListIn Fence.wide m P ops Q rest a' w) → wpListIn Fence.wide m P ops Q (l ++ rest) a w
 | [], i, E, E', a, vc, hE, hN, h, _, hk => by
  simp only [runQ, Option.some.injEq, Prod.mk.injEq] at h
  obtain ⟨_, rfl⟩ := h
  exact hk a hE hN rfl
 | o :: l, i, E, E', a, vc, hE, hN, h, hvc, hk => by
  simp only [runQ] at h
  split at h
  ·rename_i vc1 E1 h1
   split at h
   ·rename_i vc2 E2 h2
    simp only [Option.some.injEq, Prod.mk.injEq] at h
    obtain ⟨rfl, rfl⟩ := h
    rw [all_append] at hvc
    obtain ⟨v, hv, hE1⟩ := stepQ_sound (qs_slh (P := P) (N := N) hS) hE hN h1 hvc.1
    have ih : wpListIn Fence.wide m P ops Q (l ++ rest) (a.put o.dst v) w := runQ_listIn hS hE1 (by rw [put_size, hN]) h2 hvc.2 (fun a' k1 k2 k3 => hk a' k1 k2 (by rw [k3, put_defers]))
    rw [List.cons_append]
    unfold wpListIn
    rcases hv with ⟨hw, hr⟩ | ⟨hw, rfl⟩
    ·rw [if_pos hw]
     refine ⟨fun _ _ => trivial, ?_⟩
     rw [show Oper.semAt Fence.wide.round a.eval o = execOp a.eval o from rfl, hr w (Keep.refl w)]
     exact ih
    ·rw [if_neg (by rw [hw]; simp)]
     exact ⟨fun _ _ => trivial, ih⟩
   ·cases h
  ·cases h
def noF : PHeap := fun _ => none
theorem sub_noF : Sub noF w := fun b c h => by cases h
theorem eval_v {t : Nat} {x : Value} (hE : SLE F noG E a) (h : E.get t = some (none, .p (.v x))) : a.eval (.tmp t) = x := by
 obtain ⟨v, h1, h2⟩ := (hE _ _ _ h).1 trivial
 rw [eval_tmp h1, v_val h2]
theorem eval_s {t : Nat} {l : List UInt8} (hE : SLE F noG E a) (h : E.get t = some (none, vstr l)) : a.eval (.tmp t) = .string ⟨l.toArray⟩ := by
 obtain ⟨v, h1, h2⟩ := (hE _ _ _ h).1 trivial
 rw [eval_tmp h1, asStr_val rfl h2]
theorem eval_vg {t : Nat} {x : Value} {b : Bool} (hb : b = true) (hE : SLE F noG E a) (h : E.get t = some (some b, .p (.v x))) : a.eval (.tmp t) = x := by
 obtain ⟨v, h1, h2⟩ := (hE _ _ _ h).1 hb
 rw [eval_tmp h1, v_val h2]
theorem eval_sg {t : Nat} {l : List UInt8} {b : Bool} (hb : b = true) (hE : SLE F noG E a) (h : E.get t = some (some b, vstr l)) : a.eval (.tmp t) = .string ⟨l.toArray⟩ := by
 obtain ⟨v, h1, h2⟩ := (hE _ _ _ h).1 hb
 rw [eval_tmp h1, asStr_val rfl h2]
theorem tq_yield {l : List Oper} {id : Nat} {vc E1} {m ly : Nat} {o : Oper} {x : Operand} {args : Array Operand} {ts : Array TypeId} {t : Nat} {s : List UInt8} {Gt Gf : World → Prop} {E2 : Bool → Env} (n : Nat) (us : List Nat)
  (h1 : (runQ P N l.toArray [] [] 0 (l.take n) E).bind (fun q => (proj q.2 us).map fun e => (q.1, e)) = some (vc, E1)) (hvc : all vc) (hn : l[n]? = some o) (ho : o.op = .call ⟨.value x, args, ts⟩) (hgd : o.guard = none) (hd : o.dst = some t) (hdk : dstOk N (some t) = true)
  (h2 : ∀ b, runQ P N l.toArray [] [] (n + 1) (l.drop (n + 1)) [(t, none, vbool b)] = some ([], E2 b))
  (hx : ∀ a : Act, SLE F noG E1 a → a.eval x = .func (.yield ly) #[] #[] ∧ args.map a.eval = #[.string ⟨s.toArray⟩])
  (hY : ∀ w, G w → YieldAt Fence.wide m P ly #[.string ⟨s.toArray⟩] w fun e w' => (e = .returned (.bool true) ∧ Gt w') ∨ (e = .returned (.bool false) ∧ Gf w'))
  (hk : ∀ b a w, QS N noF (E2 b) (fun w => (b = true → Gt w) ∧ (b = false → Gf w)) a w → Q .normal a w) : TrQ P N F (.region id l.toArray false) E G Q := by
 intro a w hS
 cases hr : runQ P N l.toArray [] [] 0 (l.take n) E with
 | none => rw [hr] at h1; cases h1
 | some q =>
  obtain ⟨vc1, E0⟩ := q
  rw [hr] at h1
  simp only [Option.bind_some, Option.map_eq_some_iff, Prod.mk.injEq] at h1
  obtain ⟨e, he, rfl, rfl⟩ := h1
  refine (wpIn_wide (n := m + 1)).1 (wpIn_region_lit ?_)
  have hdr : l.drop n = o :: l.drop (n + 1) := by
   obtain ⟨hlt, hget⟩ := List.getElem?_eq_some_iff.1 hn
   rw [List.drop_eq_getElem_cons hlt, hget]
  have key : wpListIn Fence.wide (m + 1) P l.toArray Q (l.take n ++ o :: l.drop (n + 1)) a w := by
   refine runQ_listIn hS.s hS.e hS.n hr hvc fun a' k1 k2 k3 => ?_
   obtain ⟨hx1, hx2⟩ := hx a' (sle_proj he k1)
   have hw : Region.wanted o (yielded l.toArray a'.tmps) = true := by simp [Region.wanted, hgd]
   unfold wpListIn
   rw [if_pos hw]
   refine ⟨fun _ _ => trivial, ?_⟩
   obtain ⟨fn, tmps, assign, body, hy, hR⟩ := hY w hS.g
   rw [show Oper.semAt Fence.wide.round a'.eval o = execOp a'.eval o from rfl, run_yield_op ho hx1 (by rw [hx2]; exact hy)]
   refine ⟨(fun h => by cases h), hR.mono ?_⟩
   have fin : ∀ (b : Bool) w', (b = true → Gt w') → (b = false → Gf w') → wpListIn Fence.wide (m + 1) P l.toArray Q (l.drop (n + 1)) (a'.put o.dst (.bool b)) w' := by
    intro b w' g1 g2
    rw [hd]
    have := runQ_listIn (P := P) (F := noF) (rest := []) (Q := Q) (m := m + 1) (w := w') (a := a'.put (some t) (.bool b)) sub_noF (fun u g d hu => by
     simp only [Env.get] at hu
     cases hb : Nat.beq t u with
     | true =>
      rw [hb] at hu
      simp only [cond_true, Option.some.injEq, Prod.mk.injEq] at hu
      obtain ⟨rfl, rfl⟩ := hu
      rw [← Nat.eq_of_beq_eq_true hb]
      exact ⟨fun _ => ⟨.bool b, put_get k2 hdk rfl, relV_bool⟩, fun hn => absurd trivial hn⟩
     | false => rw [hb] at hu; cases hu) (by rw [put_size]; exact k2) (h2 b) trivial (fun a'' q1 q2 q3 => hk b a'' w' ⟨q1, q2, (q3.trans put_defers).trans (k3.trans hS.d), sub_noF, g1, g2⟩)
    rw [List.append_nil] at this
    exact this
   rintro e w' (⟨rfl, hg⟩ | ⟨rfl, hg⟩)
   ·exact fin true w' (fun _ => hg) (fun h => by cases h)
   ·exact fin false w' (fun h => by cases h) (fun _ => hg)
  rw [← hdr, List.take_append_drop] at key
  exact key
def projG (E : Env) : List Nat → Option Env
 | [] => some []
 | t :: l => match E.get t, projG E l with
  | some (g, d), some r => some ((t, g, d) :: r)
  | _, _ => none
theorem projG_get : ∀ {l : List Nat} {E E' : Env} {t : Nat} {g d}, projG E l = some E' → E'.get t = some (g, d) → E.get t = some (g, d)
 | [], E, E', t, g, d, h, hg => by
  simp only [projG, Option.some.injEq] at h
  subst h
  cases hg
 | u :: l, E, E', t, g, d, h, hg => by
  simp only [projG] at h
  split at h
  ·rename_i g0 d0 r h1 h2
   simp only [Option.some.injEq] at h
   subst h
   simp only [Env.get] at hg
   cases hb : Nat.beq u t with
   | true =>
    rw [hb] at hg
    simp only [cond_true, Option.some.injEq, Prod.mk.injEq] at hg
    obtain ⟨rfl, rfl⟩ := hg
    rw [← Nat.eq_of_beq_eq_true hb]
    exact h1
   | false =>
    rw [hb] at hg
    exact projG_get h2 (by simpa using hg)
  ·cases h
theorem sle_projG {l : List Nat} (h : projG E l = some E') (hE : SLE F noG E a) : SLE F noG E' a := fun t g d hg => hE t g d (projG_get h hg)
theorem tq_callG {l : List Oper} {id : Nat} {vc va vb E1 EA EB} {o : Oper} {x : Operand} {f : FuncId} {args : Array Operand} {ts : Array TypeId} {t tg : Nat} {b : Bool} {Gt Gf : World → Prop} (n : Nat) (hs : List (Nat × D)) (us ua : List Nat)
  (hm : P.follows .mixedOrders = true) (hB : Region.lexTailB .any l.toArray n = true) (h1 : (runQ P N l.toArray [] hs 0 (l.take n) E).bind (fun q => (projG q.2 us).map fun e => (q.1, e)) = some (vc, E1)) (hvc : all vc)
  (hn : l[n]? = some o) (ho : o.op = .call ⟨.value x, args, ts⟩) (hd : o.dst = some t) (hdk : dstOk N (some t) = true) (he : execCond l.toArray E1 o = some (some b)) (hf : callable P f = true) (hG : Drawn G) (htg : E1.get tg = some (none, vbool b))
  (hA : (runQ P N l.toArray [] [] (n + 1) (l.drop (n + 1)) ((t, some b, vbool true) :: E1)).bind (fun q => (proj q.2 ua).map fun e => (q.1, e)) = some (va, EA)) (hva : all va)
  (hB' : runQ P N l.toArray [] [] (n + 1) (l.drop (n + 1)) [(t, some b, vbool false), (tg, none, vbool b)] = some (vb, EB)) (hvb : all vb)
  (hcall : b = true → ∀ a w, QS N F E1 G a w → ∃ caps, a.eval x = .func (.func f) #[] caps ∧ Calls P f (args.map a.eval ++ caps) w fun e w' => ∃ r, e = .returned (.bool r) ∧ (r = true → Gt w' ∧ Sub F w') ∧ (r = false → Gf w'))
  (hkA : ∀ a w, QS N F EA (fun w => (b = false → G w) ∧ (b = true → Gt w)) a w → Q .normal a w) (hkB : b = true → ∀ a w, QS N noF EB Gf a w → Q .normal a w) : TrQ P N F (.region id l.toArray true) E G Q := by
 cases hr : runQ P N l.toArray [] hs 0 (l.take n) E with
 | none => rw [hr] at h1; cases h1
 | some q =>
 obtain ⟨vc1, E0⟩ := q
 rw [hr] at h1
 simp only [Option.bind_some, Option.map_eq_some_iff, Prod.mk.injEq] at h1
 obtain ⟨e, he0, rfl, rfl⟩ := h1
 refine tq_still n hs hm hB hr hvc hG fun a w hS0 => ?_
 have hS : QS N F e G a w := ⟨sle_projG he0 hS0.e, hS0.n, hS0.d, hS0.s, hS0.g⟩
 have hdr : l.drop n = o :: l.drop (n + 1) := by
  obtain ⟨hlt, hget⟩ := List.getElem?_eq_some_iff.1 hn
  rw [List.drop_eq_getElem_cons hlt, hget]
 rw [hdr]
 cases hra : runQ P N l.toArray [] [] (n + 1) (l.drop (n + 1)) ((t, some b, vbool true) :: e) with
 | none => rw [hra] at hA; cases hA
 | some qa =>
 obtain ⟨va1, EA0⟩ := qa
 rw [hra] at hA
 simp only [Option.bind_some, Option.map_eq_some_iff, Prod.mk.injEq] at hA
 obtain ⟨ea, hea, rfl, rfl⟩ := hA
 have goA : ∀ (v : Value) w', Sub F w' → (b = false → G w') → (b = true → Gt w') → (b = true → v = .bool true) → (b = false → v = undef) → wpList P l.toArray Q (l.drop (n + 1)) (a.put (some t) v) w' := by
  intro v w' hs g1 g2 v1 v2
  have hE2 : SLE F noG ((t, some b, vbool true) :: e) (a.put (some t) v) := sle_put (dst := some t) hS.e hS.n hdk (fun h => by rw [v1 h]; exact relV_bool) (fun h => v2 (by simpa [on] using h))
  exact runQ_plain (qs_slh (P := P) (N := N) hs) hE2 (by rw [put_size]; exact hS.n) hra hva fun a' k1 k2 k3 => hkA a' w' ⟨sle_proj hea k1, k2, (k3.trans put_defers).trans hS.d, hs, g1, g2⟩
 refine wl_call (K := fun r w' => (r = true → Gt w' ∧ Sub F w') ∧ (r = false → Gf w')) ho hd he hS hf (fun hb => hcall hb a w hS) (fun hb r w' hK => ?_) (fun hb => goA undef w hS.s (fun _ => hS.g) (fun h => by rw [hb] at h; cases h) (fun h => by rw [hb] at h; cases h) (fun _ => rfl))
 cases r with
 | true => exact goA (.bool true) w' (hK.1 rfl).2 (fun h => by rw [hb] at h; cases h) (fun _ => (hK.1 rfl).1) (fun _ => rfl) (fun h => by rw [hb] at h; cases h)
 | false =>
  have hE2 : SLE noF noG [(t, some b, vbool false), (tg, none, vbool b)] (a.put (some t) (.bool false)) := by
   have h0 : SLE noF noG [(tg, none, vbool b)] a := by
    intro u g d hu
    simp only [Env.get] at hu
    cases hbq : Nat.beq tg u with
    | true =>
     rw [hbq] at hu
     simp only [cond_true, Option.some.injEq, Prod.mk.injEq] at hu
     obtain ⟨rfl, rfl⟩ := hu
     rw [← Nat.eq_of_beq_eq_true hbq]
     obtain ⟨v, q1, q2⟩ := (hS.e _ _ _ htg).1 trivial
     rw [asBool_val rfl q2] at q1
     exact ⟨fun _ => ⟨_, q1, relV_bool⟩, fun hn => absurd trivial hn⟩
    | false => rw [hbq] at hu; cases hu
   exact sle_put (dst := some t) h0 hS.n hdk (fun _ => relV_bool) (fun h => absurd hb (by simpa [on] using h))
  exact runQ_plain (qs_slh (P := P) (N := N) sub_noF) hE2 (by rw [put_size]; exact hS.n) hB' hvb fun a' k1 k2 k3 => hkB hb a' w' ⟨k1, k2, (k3.trans put_defers).trans hS.d, sub_noF, hK.2 rfl⟩
theorem nq_pre {N : Nat} {F : PHeap} {E E' : Env} {G G' : World → Prop} {Q : Exit → Act → World → Prop} (h : ∀ a w, QS N F E G a w → QS N F E' G' a w) (k : ∀ a w, QS N F E' G' a w → Q .normal a w) : ∀ a w, QS N F E G a w → Q .normal a w := fun a w hs => k a w (h a w hs)
end
end Go.Eng
namespace Go.Eng
open Go.RowKit
section
variable {P : Program} {N : Nat} {F : PHeap} {E E' : Env} {G G' : World → Prop} {Q : Exit → Act → World → Prop} {a : Act} {w : World}
theorem tq_condP {t : Nat} {x y : Code} (b : Bool) (p : Prop) (hp : b = true ↔ p) (hb : E.get t = some (none, .p (.v (.bool b)))) (ht : p → TrQ P N F x E G Q) (hf : ¬ p → TrQ P N F y E G Q) : TrQ P N F (.cond (.tmp t) x y) E G Q :=
 tq_cond b hb (fun h => ht (hp.1 h)) (fun h => hf fun h' => by rw [hp.2 h'] at h; cases h)
theorem tqh_e {id : Nat} {K : Act → World → Prop} (h : ∀ a w, QS N F E G a w → Q (.exit id) a w) : ∀ a w, QS N F E G a w → Exit.then K Q (.exit id) a w := h
theorem qin_n {id : Nat} (h : ∀ a w, QS N F E G a w → Q .normal a w) : ∀ a w, QS N F E G a w → Exit.inBlock id Q .normal a w := h
theorem qin_hit {id : Nat} (h : ∀ a w, QS N F E G a w → Q .normal a w) : ∀ a w, QS N F E G a w → Exit.inBlock id Q (.exit id) a w := fun a w hs => inBlock_hit (h a w hs)
theorem qlp_end {α : Type} {E1 : α → Env} {G1 : α → World → Prop} {inv : α → Prop} {μ : α → Nat} {x : α} (y : α) (hi : inv y) (hm : μ y < μ x) (h : ∀ a w, QS N F E G a w → QS N F (E1 y) (G1 y) a w) :
  ∀ a w, QS N F E G a w → Exit.then (fun a w => ∃ y, inv y ∧ μ y < μ x ∧ QS N F (E1 y) (G1 y) a w) Q .normal a w := fun a w hS => ⟨y, hi, hm, h a w hS⟩
def RetQ (P : Program) (rs : Array ResultVar) (R : Ending → World → Prop) : Exit → Act → World → Prop := fun e a w => match e with
 | .ret => a.defers = [] ∧ ∃ v, (∀ fn : Func, fn.results = rs → (results fn a.tmps).run P w = .ok v w) ∧ R (.returned v) w
 | .normal => a.defers = [] ∧ ∃ v, (∀ fn : Func, fn.results = rs → (results fn a.tmps).run P w = .ok v w) ∧ R (.returned v) w
 | _ => False
theorem retq_of {rs : Array ResultVar} {R : Ending → World → Prop} {vc ds} (h : evRess P [] E rs.toList = some (vc, ds)) (hvc : all vc) (hS : QS N F E G a w) (hR : ∀ v, RelV F noG (one ds) v → G w → R (.returned v) w) :
  a.defers = [] ∧ ∃ v, (∀ fn : Func, fn.results = rs → (results fn a.tmps).run P w = .ok v w) ∧ R (.returned v) w := by
 obtain ⟨vs, h1, h2, h3⟩ := evRess_sound (C := ⟨P, w, F, [], N⟩) (qs_slh hS.s) hS.e h hvc
 refine ⟨hS.d, _, fun fn hfn => results_run (C := ⟨P, w, F, [], N⟩) (by rw [hfn]; exact h3), hR _ ?_ hS.g⟩
 by_cases h0 : vs.length = 1
 ·rw [dif_pos h0]
  match vs, h0, ds, h1 with
  | [v], _, [d], _ => exact h2 0 d v rfl rfl
 ·rw [dif_neg h0]
  have : one ds = .tup ds := by
   unfold one
   split
   ·simp at h1; omega
   ·rfl
  rw [this]
  exact .tup h1 h2
theorem tq_return {rs : Array ResultVar} {R : Ending → World → Prop} {vc ds} (h : evRess P [] E rs.toList = some (vc, ds)) (hvc : all vc) (hQ : ∀ a w, RetQ P rs R .ret a w → Q .ret a w) (hR : ∀ w v, RelV F noG (one ds) v → G w → R (.returned v) w) : TrQ P N F .ret E G Q :=
 tq_ret fun a w hS => hQ a w (retq_of h hvc hS (hR w))
theorem argE_sle {args : List PV} {vs : List Value} {γ : Gm} {n : Nat} (hlen : vs.length = args.length) (hrel : ∀ (i : Nat) p v, args[i]? = some p → vs[i]? = some v → RelV F γ (.p p) v) :
  SLE F γ (argE args 0) { tmps := vs.toArray ++ Array.replicate n undef, defers := [] } := by
 intro t g d ht
 obtain ⟨rfl, _, p, hp, rfl⟩ := argE_get ht
 rw [Nat.sub_zero] at hp
 have hlt : t < vs.length := by rw [hlen]; exact (List.getElem?_eq_some_iff.1 hp).1
 refine ⟨fun _ => ⟨vs[t], ?_, hrel t p _ hp (List.getElem?_eq_getElem hlt)⟩, fun hn => absurd trivial hn⟩
 rw [Array.getElem?_append_left (by simpa using hlt)]
 simp [hlt]
theorem calls_of_tq {f : FuncId} {fn : Func} {c : Code} {args : List PV} {vs : List Value} {R : Ending → World → Prop} (hf : P.funcs[f]? = some fn) (hb : fn.body = some c) (hn : Nat.ble args.length fn.ntmps = true)
  (hlen : vs.length = args.length) (hrel : ∀ (i : Nat) p v, args[i]? = some p → vs[i]? = some v → RelV F noG (.p p) v) (hs : Sub F w) (hg : G w)
  (h : TrQ P fn.ntmps F c (argE args 0) G (RetQ P fn.results R)) : Calls P f vs.toArray w R := by
 have hle := Nat.le_of_ble_eq_true hn
 refine calls_of_wp hf hb ?_
 refine wp_mono (h _ w ⟨argE_sle hlen hrel, by simp [hlen]; omega, rfl, hs, hg⟩) fun e a' w' hq => ?_
 cases e with
 | ret => obtain ⟨hD, v, h1, h2⟩ := hq; exact ⟨hD, v, h1 fn rfl, h2⟩
 | normal => obtain ⟨hD, v, h1, h2⟩ := hq; exact ⟨hD, v, h1 fn rfl, h2⟩
 | _ => exact hq.elim
theorem tq_callC {l : List Oper} {id : Nat} {vc E1 EA EB} {o : Oper} {x : Operand} {f : FuncId} {args : Array Operand} {ts : Array TypeId} {t : Nat} {Gt Gf : World → Prop} (n : Nat) (us ua : List Nat)
  (h1 : (runQ P N l.toArray [] [] 0 (l.take n) E).bind (fun q => (projG q.2 us).map fun e => (q.1, e)) = some (vc, E1)) (hvc : all vc)
  (hn : l[n]? = some o) (ho : o.op = .call ⟨.value x, args, ts⟩) (hgd : o.guard = none) (hd : o.dst = some t) (hdk : dstOk N (some t) = true) (hf : callable P f = true)
  (hA : (runQ P N l.toArray [] [] (n + 1) (l.drop (n + 1)) ((t, none, vbool true) :: E1)).bind (fun q => (proj q.2 ua).map fun e => (q.1, e)) = some ([], EA))
  (hB : runQ P N l.toArray [] [] (n + 1) (l.drop (n + 1)) [(t, none, vbool false)] = some ([], EB))
  (hcall : ∀ a w, QS N F E1 G a w → ∃ caps, a.eval x = .func (.func f) #[] caps ∧ Calls P f (args.map a.eval ++ caps) w fun e w' => ∃ r, e = .returned (.bool r) ∧ (r = true → Gt w' ∧ Sub F w') ∧ (r = false → Gf w'))
  (hkA : ∀ a w, QS N F EA Gt a w → Q .normal a w) (hkB : ∀ a w, QS N noF EB Gf a w → Q .normal a w) : TrQ P N F (.region id l.toArray false) E G Q := by
 intro a w hS
 cases hr : runQ P N l.toArray [] [] 0 (l.take n) E with
 | none => rw [hr] at h1; cases h1
 | some q =>
 obtain ⟨vc1, E0⟩ := q
 rw [hr] at h1
 simp only [Option.bind_some, Option.map_eq_some_iff, Prod.mk.injEq] at h1
 obtain ⟨e, he0, rfl, rfl⟩ := h1
 cases hra : runQ P N l.toArray [] [] (n + 1) (l.drop (n + 1)) ((t, none, vbool true) :: e) with
 | none => rw [hra] at hA; cases hA
 | some qa =>
 obtain ⟨va1, EA0⟩ := qa
 rw [hra] at hA
 simp only [Option.bind_some, Option.map_eq_some_iff, Prod.mk.injEq] at hA
 obtain ⟨ea, hea, rfl, rfl⟩ := hA
 have hdr : l.drop n = o :: l.drop (n + 1) := by
  obtain ⟨hlt, hget⟩ := List.getElem?_eq_some_iff.1 hn
  rw [List.drop_eq_getElem_cons hlt, hget]
 refine (wpIn_wide (n := 1)).1 (wpIn_region_lit ?_)
 have key : wpListIn Fence.wide 1 P l.toArray Q (l.take n ++ o :: l.drop (n + 1)) a w := by
  refine runQ_listIn hS.s hS.e hS.n hr hvc fun a' k1 k2 k3 => ?_
  obtain ⟨caps, c1, c2⟩ := hcall a' w ⟨sle_projG he0 k1, k2, k3.trans hS.d, hS.s, hS.g⟩
  have hw : Region.wanted o (yielded l.toArray a'.tmps) = true := by simp [Region.wanted, hgd]
  unfold wpListIn
  rw [if_pos hw]
  refine ⟨fun _ _ => trivial, ?_⟩
  rw [show Oper.semAt Fence.wide.round a'.eval o = execOp a'.eval o from rfl, run_closure ho c1 hf w]
  refine ⟨(fun h => by cases h), callsIn_wide.2 (c2.mono ?_)⟩
  rintro en w' ⟨r, rfl, h1, h2⟩
  rw [hd]
  cases r with
  | true =>
   have hE2 : SLE F noG ((t, none, vbool true) :: e) (a'.put (some t) (.bool true)) := sle_put (dst := some t) (e := none) (sle_projG he0 k1) k2 hdk (fun _ => relV_bool) (fun h => absurd trivial h)
   have := runQ_listIn (P := P) (rest := []) (Q := Q) (m := 1) (h1 rfl).2 hE2 (by rw [put_size]; exact k2) hra trivial (fun a'' q1 q2 q3 => hkA a'' w' ⟨sle_proj hea q1, q2, (q3.trans put_defers).trans (k3.trans hS.d), (h1 rfl).2, (h1 rfl).1⟩)
   rw [List.append_nil] at this
   exact this
  | false =>
   have hE2 : SLE noF noG [(t, none, vbool false)] (a'.put (some t) (.bool false)) := sle_put (dst := some t) (e := none) (E := []) (fun u g d hu => by cases hu) k2 hdk (fun _ => relV_bool) (fun h => absurd trivial h)
   have := runQ_listIn (P := P) (rest := []) (Q := Q) (m := 1) (w := w') sub_noF hE2 (by rw [put_size]; exact k2) hB trivial (fun a'' q1 q2 q3 => hkB a'' w' ⟨q1, q2, (q3.trans put_defers).trans (k3.trans hS.d), sub_noF, h2 rfl⟩)
   rw [List.append_nil] at this
   exact this
 rw [← hdr, List.take_append_drop] at key
 exact key
end
end Go.Eng
namespace Go.Proofs.Ytjnjmnfacaakfaa
open Go.Eng
def symAt (c : Nat) : List UInt8 := (symbols.drop c).take 1
def extC (l : Lang) (rec : Nat → List UInt8 → List (List UInt8)) (q : Nat) (p : List UInt8) : Nat → List (List UInt8)
 | 0 => []
 | c + 1 => extC l rec q p c ++ (if 0 ≤ (l.Next.getD q []).getD c 0 then rec ((l.Next.getD q []).getD c 0).toNat (p ++ symAt c) else [])
def extW (l : Lang) : Nat → Nat → List UInt8 → List (List UInt8)
 | 0, q, p => if (leadR l 0).getD q false = true then [p] else []
 | n + 1, q, p => if (leadR l (n + 1)).getD q false = true then extC l (extW l n) q p 37 else []
def Iw := List (List UInt8) → World → Prop
structure IterH (F : PHeap) (Kp : World → World → Prop) (J Jx : Iw) (M m ly : Nat) : Prop where
 dr : ∀ s, Drawn (J s)
 kd : ∀ A B : World, Kp A B → Kp A { B with drawn := B.drawn + 1 }
 kt : ∀ {A B D : World}, Kp A B → Kp B D → Kp A D
 kr : ∀ A : World, Kp A A
 js : ∀ s A, J s A → Sub F A
 yl : ∀ pre x W, J pre W → pre.length < M → YieldAt Fence.wide m Try.prog ly #[.string ⟨List.toArray x⟩] W fun e W' => (e = .returned (.bool true) ∧ J (pre ++ [x]) W' ∧ Kp W W') ∨ (e = .returned (.bool false) ∧ Jx (pre ++ [x]) W')
def capsX (l : Lang) (ly : Nat) (vs : List Value) : List PV := [.pel (eL (eL eB 1 false) 1 [] (leadsL l 12)), .pel (.v (.func (.yield ly) #[] #[])), .pel (eLang l), .pel (.v (.func (.func 50) #[] vs.toArray))]
def extR (l : Lang) (F : PHeap) (Kp : World → World → Prop) (J Jx : Iw) (n q : Nat) (p : List UInt8) (pre : List (List UInt8)) (W : World) : Ending → World → Prop :=
 fun e W' => ∃ r, e = .returned (.bool r) ∧ (r = true → (J (pre ++ extW l n q p) W' ∧ Kp W W') ∧ Sub F W') ∧ (r = false → ∃ z, z <+: extW l n q p ∧ Jx (pre ++ z) W')
def ExtP (l : Lang) (F : PHeap) (Kp : World → World → Prop) (J Jx : Iw) (M : Nat) (vs : List Value) (n q : Nat) (p : List UInt8) (pre : List (List UInt8)) (W : World) : Prop :=
 Calls Try.prog 50 (#[.int .i64 (q : Int), .int .i64 (n : Int), .string ⟨p.toArray⟩] ++ vs.toArray) W (extR l F Kp J Jx n q p pre W)
section
variable {l : Lang} {rec : Nat → List UInt8 → List (List UInt8)} {n q : Nat} {p : List UInt8}
theorem extW_no (h : (leadR l n).getD q false = false) : extW l n q p = [] := by
 cases n <;> (unfold extW; rw [if_neg (by rw [h]; simp)])
theorem extW_0 (h : (leadR l 0).getD q false = true) : extW l 0 q p = [p] := by rw [extW, if_pos h]
theorem extW_s (h : (leadR l n).getD q false = true) (hn : 0 < n) : extW l n q p = extC l (extW l (n - 1)) q p 37 := by
 obtain ⟨n, rfl⟩ : ∃ j, n = j + 1 := ⟨n - 1, by omega⟩
 rw [extW, if_pos h]; rfl
theorem extC_mono : ∀ {c d : Nat}, c ≤ d → ∃ z, extC l rec q p d = extC l rec q p c ++ z
 | c, 0, h => by
   obtain rfl : c = 0 := by omega
   exact ⟨[], by simp⟩
 | c, d + 1, h => by
  by_cases hc : c = d + 1
  ·subst hc; exact ⟨[], by simp⟩
  ·obtain ⟨z, hz⟩ := extC_mono (c := c) (d := d) (by omega)
   rw [extC, hz, List.append_assoc]
   exact ⟨_, rfl⟩
theorem extC_yes {c : Nat} (h : 0 ≤ (l.Next.getD q []).getD c 0) : extC l rec q p (c + 1) = extC l rec q p c ++ rec ((l.Next.getD q []).getD c 0).toNat (p ++ symAt c) := by rw [extC, if_pos h]
theorem extC_no {c : Nat} (h : ¬ 0 ≤ (l.Next.getD q []).getD c 0) : extC l rec q p (c + 1) = extC l rec q p c := by rw [extC, if_neg h, List.append_nil]
end
theorem y4_of {F : PHeap} {Kp : World → World → Prop} {J Jx : Iw} {M m ly : Nat} (hI : IterH F Kp J Jx M m ly) {pre : List (List UInt8)} {p : List UInt8} {W w : World} (hJ : J pre w) (hK : Kp W w) (hlt : pre.length < M) :
  YieldAt Fence.wide m Try.prog ly #[.string ⟨p.toArray⟩] w fun e W' => (e = .returned (.bool true) ∧ (J (pre ++ [p]) W' ∧ Kp W W')) ∨ (e = .returned (.bool false) ∧ Jx (pre ++ [p]) W') :=
 let ⟨fn, tmps, assign, body, h1, h2⟩ := hI.yl pre p w hJ hlt
 ⟨fn, tmps, assign, body, h1, h2.mono fun e w' h => h.imp (fun ⟨a, b, c⟩ => ⟨a, b, hI.kt hK c⟩) id⟩
theorem symAt_len (c : Nat) : (symAt c).length ≤ 1 := by simp [symAt]; omega
theorem ext_ok (l : Lang) (hok : check l = 0) (F : PHeap) (Kp : World → World → Prop) (J Jx : Iw) (M m ly : Nat) (hI : IterH F Kp J Jx M m ly) (vs : List Value) (hvs : vs.length = 4) (hv : ∀ (i : Nat) p v, (capsX l ly vs)[i]? = some p → vs[i]? = some v → RelP F p [v]) :
  ∀ (n q : Nat) (p : List UInt8) (pre : List (List UInt8)) (W : World), n ≤ 12 → q < l.Accept.length → p.length + n ≤ 12 → pre.length + (extW l n q p).length ≤ M → Sub F W → J pre W → ExtP l F Kp J Jx M vs n q p pre W := by
 intro n
 induction n using Nat.strongRecOn with
 | ind n ih =>
  intro q p pre W hn hq hp hM hs hJ
  obtain ⟨f1, f2, f3, f4⟩ := check_facts hok
  have hrow := f4 q (by omega)
  have hrl := hrow.1
  unfold ExtP
  rw [show #[Value.int .i64 (q : Int), .int .i64 (n : Int), .string ⟨p.toArray⟩] ++ vs.toArray = ([Value.int .i64 (q : Int), .int .i64 (n : Int), .string ⟨p.toArray⟩] ++ vs).toArray from by simp]
  refine calls_of_tq (F := F) (args := [.v (.int .i64 (q : Int)), .v (.int .i64 (n : Int)), .s p] ++ capsX l ly vs) (G := fun w => J pre w ∧ Kp W w) (fn := Try.f50) Try.func50 rfl (by kernel_rfl) (by simp [hvs, capsX]) ?_ hs ⟨hJ, hI.kr W⟩ ?_
  ·intro i pv v h1 h2
   match i with
   | 0 => cases h1; cases h2; exact relV_int
   | 1 => cases h1; cases h2; exact relV_int
   | 2 => cases h1; cases h2; exact relV_str
   | i + 3 =>
    have h3 : (capsX l ly vs)[i]? = some pv := h1
    have := hv i pv v h3 h2
    have hm : pv.many = false := by
     unfold capsX at h3
     match i with
     | 0 => cases h3; rfl
     | 1 => cases h3; rfl
     | 2 => cases h3; rfl
     | 3 => cases h3; rfl
     | i + 4 => simp at h3
    exact .one hm (.p this)
  refine tq_seq (tq_reg (vc := []) (E' := [(0, none, vint .i64 (q : Int)), (1, none, vint .i64 (n : Int)), (2, none, vstr p), (3, none, .p (.pel ((eL (eL eB 1 false) 1 []) (leadsL l 12)))), (4, none, .p (.pel (.v (.func (.yield ly) #[] #[])))), (5, none, .p (.pel (eLang l))), (6, none, .p (.pel (.v (.func (.func 50) #[] vs.toArray))))]) [] [0, 1, 2, 3, 4, 5, 6] (by kernel_rfl) trivial (tq_then (tq_seq (tq_seq (tq_reg (vc := [(0 : Int) ≤ (n : Int), (n : Int) < ((leadsL l 12).length : Int), (0 : Int) ≤ (q : Int), (q : Int) < (((leadsL l 12).getD n []).length : Int), (((leadsL l 12).getD n []).getD q false) = ((leadR l n).getD q false)]) (E' := [(0, none, vint .i64 (q : Int)), (1, none, vint .i64 (n : Int)), (2, none, vstr p), (4, none, .p (.pel (.v (.func (.yield ly) #[] #[])))), (5, none, .p (.pel (eLang l))), (6, none, .p (.pel (.v (.func (.func 50) #[] vs.toArray)))), (20, none, vbool (!((leadR l n).getD q false)))]) [(6, vbool ((leadR l n).getD q false))] [0, 1, 2, 4, 5, 6, 20] (by kernel_rfl) (al (by omega) (al (by rw [leadsL_len]; omega) (al (by omega) (al (by rw [leadsL_get (by omega), leadR_len]; omega) (al (by rw [leadsL_get (by omega)]) (trivial)))))) (tq_then (tq_condP (!((leadR l n).getD q false)) (((leadR l n).getD q false) = false) (by simp) (by kernel_rfl) (fun hc1 => ?_) (fun hc1 => ?_))))))))
  ·exact tq_seq (tq_reg (vc := []) (E' := [(10, none, vbool true)]) [] [10] (by kernel_rfl) trivial (tq_then (tq_return (rs := Try.f50.results) (R := extR l F Kp J Jx n q p pre W) (vc := []) (ds := [vbool true]) (by kernel_rfl) trivial (fun _ _ h => h) (fun w_ v_ hr hg => ⟨true, by rw [asBool_val (b := true) rfl hr], fun _ => ⟨⟨by rw [extW_no hc1, List.append_nil]; exact hg.1, hg.2⟩, hI.js _ _ hg.1⟩, fun h => by cases h⟩))))
  ·refine tq_skip (tq_then (tq_seq (tq_seq (tq_reg (vc := []) (E' := [(0, none, vint .i64 (q : Int)), (1, none, vint .i64 (n : Int)), (2, none, vstr p), (4, none, .p (.pel (.v (.func (.yield ly) #[] #[])))), (5, none, .p (.pel (eLang l))), (6, none, .p (.pel (.v (.func (.func 50) #[] vs.toArray)))), (22, none, vbool ((n : Int) == 0))]) [] [0, 1, 2, 4, 5, 6, 22] (by kernel_rfl) trivial (tq_then (tq_condP ((n : Int) == 0) ((n : Int) = 0) (by simp) (by kernel_rfl) (fun hc2 => ?_) (fun hc2 => ?_)))))))
   ·refine tq_seq ?_
    have hx0 : extW l n q p = [p] := (by obtain rfl : n = 0 := (by omega); exact extW_0 (eq_true_of_ne_false hc1))
    refine tq_yield (ly := ly) (m := m) (s := p) (Gt := fun w => J (pre ++ [p]) w ∧ Kp W w) (Gf := fun w => Jx (pre ++ [p]) w) (vc := []) (E1 := [(23, none, .p (.v (.func (.yield ly) #[] #[]))), (24, none, vstr p)]) (E2 := fun b => [(10, none, vbool b), (25, none, vbool b)]) 2 [23, 24] (by kernel_rfl) trivial rfl rfl rfl rfl (by kernel_rfl) (fun b => by kernel_rfl) (fun a_ h_ => ⟨eval_v (x := .func (.yield ly) #[] #[]) h_ (by kernel_rfl), by rw [show (#[Operand.tmp 24].map a_.eval) = #[a_.eval (.tmp 24)] from by simp, eval_s (l := p) h_ (by kernel_rfl)]⟩) (fun w_ hg => y4_of hI hg.1 hg.2 (by rw [hx0] at hM; simp at hM; omega)) (fun b => nq_pre (F := noF) (E' := [(10, none, vbool b)]) (fun a_ w_ hS => qs_proj (ts := [10]) (by kernel_rfl) hS) ?_)
    exact tq_then (tq_return (rs := Try.f50.results) (R := extR l F Kp J Jx n q p pre W) (vc := []) (ds := [vbool b]) (by kernel_rfl) trivial (fun _ _ h => h) (fun w_ v_ hr hg => ⟨b, by rw [asBool_val (b := b) rfl hr], fun h => ⟨by rw [hx0]; exact hg.1 h, hI.js _ _ (hg.1 h).1⟩, fun h => ⟨[p], by simp [hx0], hg.2 h⟩⟩))
   ·refine tq_skip (tq_then (tq_seq (tq_seq (tq_reg (vc := [(0 : Int) ≤ (q : Int), (q : Int) < (l.Next.length : Int)]) (E' := [(1, none, vint .i64 (n : Int)), (2, none, vstr p), (6, none, .p (.pel (.v (.func (.func 50) #[] vs.toArray)))), (30, none, .p ((eL eI 1 0) (l.Next.getD q []))), (31, none, vint .i64 (((l.Next.getD q []).length : Nat) : Int)), (32, none, vint .i64 0)]) [] [1, 2, 6, 30, 31, 32] (by kernel_rfl) (al (by omega) (al (by omega) (trivial))) (tq_then (tq_block (tq_loop (α := Nat) (fun z : Nat => (fun (c : Nat) => [(1, none, vint .i64 (n : Int)), (2, none, vstr p), (6, none, .p (.pel (.v (.func (.func 50) #[] vs.toArray)))), (30, none, .p ((eL eI 1 0) (l.Next.getD q []))), (31, none, vint .i64 (((l.Next.getD q []).length : Nat) : Int)), (32, none, vint .i64 (c : Int))]) z) (fun z : Nat => (fun (c : Nat) => (fun w_ => J (pre ++ extC l (extW l (n - 1)) q p c) w_ ∧ Kp W w_)) z) (fun z : Nat => (fun (c : Nat) => (c ≤ 37)) z) (fun z : Nat => (fun (c : Nat) => 37 - c) z) 0 ?_ ?_ ?_)))))))
    ·show (0 ≤ 37)
     ·omega
    ·intro A_ W_ hS
     replace hS := qs_set (d := vint .i64 0) 32 (vint .i64 ((0 : Nat) : Int)) (by kernel_rfl) (eqD_int (by omega)) hS
     exact qs_g (by exact fun w_ hg => ⟨by rw [extC, List.append_nil]; exact hg.1, hg.2⟩) (qs_proj (ts := [1, 2, 6, 30, 31, 32]) (by kernel_rfl) hS)
    ·intro z hz
     revert z; intro c hz
     have hz : (c ≤ 37) := hz
     have hi0_0 := hz
     refine tq_seq (tq_reg (vc := []) (E' := [(1, none, vint .i64 (n : Int)), (2, none, vstr p), (6, none, .p (.pel (.v (.func (.func 50) #[] vs.toArray)))), (30, none, .p ((eL eI 1 0) (l.Next.getD q []))), (31, none, vint .i64 (((l.Next.getD q []).length : Nat) : Int)), (32, none, vint .i64 (c : Int)), (33, none, vbool (decide ((c : Int) < (((l.Next.getD q []).length : Nat) : Int))))]) [] [1, 2, 6, 30, 31, 32, 33] (by kernel_rfl) trivial (tq_then (tq_seq (tq_condP (decide ((c : Int) < (((l.Next.getD q []).length : Nat) : Int))) ((c : Int) < (((l.Next.getD q []).length : Nat) : Int)) (by simp) (by kernel_rfl) (fun hc3 => ?_) (fun hc3 => ?_)))))
     ·refine tq_skip (tq_then (tq_seq (tq_block (tq_seq (tq_reg (vc := [(0 : Int) ≤ (c : Int), (c : Int) < ((l.Next.getD q []).length : Int)]) (E' := [(1, none, vint .i64 (n : Int)), (2, none, vstr p), (6, none, .p (.pel (.v (.func (.func 50) #[] vs.toArray)))), (11, none, vint .i64 (c : Int)), (12, none, vint .i64 ((l.Next.getD q []).getD c 0)), (30, none, .p ((eL eI 1 0) (l.Next.getD q []))), (31, none, vint .i64 (((l.Next.getD q []).length : Nat) : Int)), (32, none, vint .i64 (c : Int))]) [] [1, 2, 6, 11, 12, 30, 31, 32] (by kernel_rfl) (al (by omega) (al (by omega) (trivial))) (tq_then (tq_seq (tq_callG (f := 50) (tg := 39) (b := (decide (0 ≤ (l.Next.getD q []).getD c 0))) (Gt := fun w => J (pre ++ extC l (extW l (n - 1)) q p (c + 1)) w ∧ Kp W w) (Gf := fun w => ∃ z, z <+: extW l n q p ∧ Jx (pre ++ z) w) (vc := [(decide (0 ≤ ((l.Next.getD q []).getD c 0))) = true → (decide (0 ≤ ((l.Next.getD q []).getD c 0))) = true, (decide (0 ≤ ((l.Next.getD q []).getD c 0))) = true → ((IntKind.wrap .i64 ((n : Int) - 1)) = (((n - 1) : Nat) : Int)), (decide (0 ≤ ((l.Next.getD q []).getD c 0))) = true → (decide (0 ≤ ((l.Next.getD q []).getD c 0))) = true, (decide (0 ≤ ((l.Next.getD q []).getD c 0))) = true → ((IntKind.wrap .i64 ((c : Int) + 1)) = (((c + 1) : Nat) : Int)), (decide (0 ≤ ((l.Next.getD q []).getD c 0))) = true → (decide (0 ≤ ((l.Next.getD q []).getD c 0))) = true, (decide (0 ≤ ((l.Next.getD q []).getD c 0))) = true → (decide (0 ≤ ((l.Next.getD q []).getD c 0))) = true, (decide (0 ≤ ((l.Next.getD q []).getD c 0))) = true → ((0 : Int) ≤ (c : Int)), (decide (0 ≤ ((l.Next.getD q []).getD c 0))) = true → ((c : Int) ≤ (((c + 1) : Nat) : Int)), (decide (0 ≤ ((l.Next.getD q []).getD c 0))) = true → ((((c + 1) : Nat) : Int) ≤ (([97, 98, 99, 100, 101, 102, 103, 104, 105, 106, 107, 108, 109, 110, 111, 112, 113, 114, 115, 116, 117, 118, 119, 120, 121, 122, 48, 49, 50, 51, 52, 53, 54, 55, 56, 57, 45] : List UInt8).length : Int)), (decide (0 ≤ ((l.Next.getD q []).getD c 0))) = true → (decide (0 ≤ ((l.Next.getD q []).getD c 0))) = true, (decide (0 ≤ ((l.Next.getD q []).getD c 0))) = true → (decide (0 ≤ ((l.Next.getD q []).getD c 0))) = true, (decide (0 ≤ ((l.Next.getD q []).getD c 0))) = true → (((p.length + ((([97, 98, 99, 100, 101, 102, 103, 104, 105, 106, 107, 108, 109, 110, 111, 112, 113, 114, 115, 116, 117, 118, 119, 120, 121, 122, 48, 49, 50, 51, 52, 53, 54, 55, 56, 57, 45] : List UInt8).drop c).take ((c + 1) - c)).length : Nat) : Int) ≤ 9223372036854775807), (decide (0 ≤ ((l.Next.getD q []).getD c 0))) = true → ((p ++ ((([97, 98, 99, 100, 101, 102, 103, 104, 105, 106, 107, 108, 109, 110, 111, 112, 113, 114, 115, 116, 117, 118, 119, 120, 121, 122, 48, 49, 50, 51, 52, 53, 54, 55, 56, 57, 45] : List UInt8).drop c).take ((c + 1) - c))) = (p ++ symAt c))]) (va := [(decide (0 ≤ ((l.Next.getD q []).getD c 0))) = true → (decide (0 ≤ (l.Next.getD q []).getD c 0)) = true, (decide (0 ≤ ((l.Next.getD q []).getD c 0))) = true → (decide (0 ≤ ((l.Next.getD q []).getD c 0))) = true]) (vb := [(decide (0 ≤ (l.Next.getD q []).getD c 0)) = true → (decide (0 ≤ (l.Next.getD q []).getD c 0)) = true, (decide (0 ≤ (l.Next.getD q []).getD c 0)) = true → (decide (0 ≤ (l.Next.getD q []).getD c 0)) = true]) (E1 := [(1, none, vint .i64 (n : Int)), (2, none, vstr p), (6, none, .p (.pel (.v (.func (.func 50) #[] vs.toArray)))), (30, none, .p ((eL eI 1 0) (l.Next.getD q []))), (31, none, vint .i64 (((l.Next.getD q []).length : Nat) : Int)), (32, none, vint .i64 (c : Int)), (38, none, vbool (decide (0 ≤ ((l.Next.getD q []).getD c 0)))), (39, none, vbool (decide (0 ≤ ((l.Next.getD q []).getD c 0)))), (40, some (decide (0 ≤ ((l.Next.getD q []).getD c 0))), .p (.v (.func (.func 50) #[] vs.toArray))), (41, some (decide (0 ≤ ((l.Next.getD q []).getD c 0))), vint .i64 ((l.Next.getD q []).getD c 0)), (43, some (decide (0 ≤ ((l.Next.getD q []).getD c 0))), vint .i64 (((n - 1) : Nat) : Int)), (49, some (decide (0 ≤ ((l.Next.getD q []).getD c 0))), vstr (p ++ symAt c))]) (EA := [(1, none, vint .i64 (n : Int)), (2, none, vstr p), (6, none, .p (.pel (.v (.func (.func 50) #[] vs.toArray)))), (30, none, .p ((eL eI 1 0) (l.Next.getD q []))), (31, none, vint .i64 (((l.Next.getD q []).length : Nat) : Int)), (32, none, vint .i64 (c : Int)), (52, none, vbool (bif (decide (0 ≤ ((l.Next.getD q []).getD c 0))) then (!true) else false))]) (EB := [(52, none, vbool (bif (decide (0 ≤ (l.Next.getD q []).getD c 0)) then (!false) else false)), (51, some (decide (0 ≤ (l.Next.getD q []).getD c 0)), vbool (!false)), (50, some (decide (0 ≤ (l.Next.getD q []).getD c 0)), vbool false), (39, none, vbool (decide (0 ≤ (l.Next.getD q []).getD c 0)))]) 13 [(6, vint .i64 (((n - 1) : Nat) : Int)), (10, vint .i64 (((c + 1) : Nat) : Int)), (12, vstr (p ++ symAt c))] [1, 2, 6, 30, 31, 32, 38, 39, 40, 41, 43, 49] [1, 2, 6, 30, 31, 32, 52] (by kernel_rfl) (by kernel_rfl) (by kernel_rfl) (al id (al (by intro _; exact wr64 (by omega) (by omega) (by omega)) (al id (al (by intro _; exact wr64 (by omega) (by omega) (by omega)) (al id (al id (al (by omega) (al (by omega) (al (by simp_all; omega) (al id (al id (al (by simp_all; omega) (al (by intro _; rw [show (c + 1) - c = 1 by omega]; rfl) (trivial)))))))))))))) rfl rfl rfl (by kernel_rfl) (by kernel_rfl) (by kernel_rfl) (fun w_ hg => ⟨hI.dr _ _ hg.1, hI.kd _ _ hg.2⟩) (by kernel_rfl) (by kernel_rfl) (al (by simp; done) (al id (trivial))) (by kernel_rfl) (al id (al id (trivial))) ?_ ?_ ?_))))))))
      ·intro hb a_ w_ hS
       have h0 : 0 ≤ (l.Next.getD q []).getD c 0 := of_decide_eq_true hb
       have hlead := eq_true_of_ne_false hc1
       have hok2 := hrow.2 c (by omega)
       refine ⟨vs.toArray, eval_vg (x := .func (.func 50) #[] vs.toArray) hb hS.e (by kernel_rfl), ?_⟩
       have e1 := eval_vg (x := .int .i64 ((l.Next.getD q []).getD c 0)) hb hS.e (t := 41) (by kernel_rfl)
       have e2 := eval_vg (x := .int .i64 ((n - 1 : Nat) : Int)) hb hS.e (t := 43) (by kernel_rfl)
       have e3 := eval_sg (l := p ++ symAt c) hb hS.e (t := 49) (by kernel_rfl)
       rw [show (#[Operand.tmp 41, Operand.tmp 43, Operand.tmp 49].map a_.eval) = #[a_.eval (.tmp 41), a_.eval (.tmp 43), a_.eval (.tmp 49)] from by simp, e1, e2, e3, ← Int.toNat_of_nonneg h0]
       obtain ⟨y2, hy2⟩ := extC_mono (l := l) (rec := extW l (n - 1)) (q := q) (p := p) (c := c + 1) (d := 37) (by omega)
       have hw : extW l n q p = extC l (extW l (n - 1)) q p c ++ extW l (n - 1) ((l.Next.getD q []).getD c 0).toNat (p ++ symAt c) ++ y2 := by rw [extW_s hlead (by omega), hy2, extC_yes h0]
       have hlen := symAt_len c
       have hM2 := hM
       rw [hw] at hM2
       simp only [List.length_append] at hM2
       have hc := ih (n - 1) (by omega) ((l.Next.getD q []).getD c 0).toNat (p ++ symAt c) (pre ++ extC l (extW l (n - 1)) q p c) w_ (by omega) (by omega) (by simp only [List.length_append]; omega) (by simp only [List.length_append]; omega) hS.s hS.g.1
       unfold ExtP at hc
       refine hc.mono ?_
       rintro e w' ⟨r, rfl, h1, h2⟩
       refine ⟨r, rfl, fun h => ⟨⟨?_, hI.kt hS.g.2 (h1 h).1.2⟩, (h1 h).2⟩, fun h => ?_⟩
       ·rw [extC_yes h0, ← List.append_assoc]; exact (h1 h).1.1
       ·obtain ⟨z, ⟨y, hz⟩, hj⟩ := h2 h
        refine ⟨extC l (extW l (n - 1)) q p c ++ z, ?_, by rw [← List.append_assoc]; exact hj⟩
        rw [hw, ← hz]
        exact ⟨y ++ y2, by simp⟩
      ·refine nq_pre (F := F) (E' := [(1, none, vint .i64 (n : Int)), (2, none, vstr p), (6, none, .p (.pel (.v (.func (.func 50) #[] vs.toArray)))), (30, none, .p ((eL eI 1 0) (l.Next.getD q []))), (31, none, vint .i64 (((l.Next.getD q []).length : Nat) : Int)), (32, none, vint .i64 (c : Int)), (52, none, vbool false)]) (G' := fun w => J (pre ++ extC l (extW l (n - 1)) q p (c + 1)) w ∧ Kp W w) (fun a_ w_ hS => qs_g (fun w_ hg => ?_) (qs_proj (ts := [1, 2, 6, 30, 31, 32, 52]) (by kernel_rfl) (qs_set (d := vbool (bif (decide (0 ≤ ((l.Next.getD q []).getD c 0))) then (!true) else false)) 52 (vbool false) (by kernel_rfl) (eqD_bool (by cases (decide (0 ≤ (l.Next.getD q []).getD c 0)) <;> rfl)) hS))) ?_
       ·by_cases h0 : 0 ≤ (l.Next.getD q []).getD c 0
        ·exact hg.2 (decide_eq_true h0)
        ·rw [extC_no h0]; exact hg.1 (decide_eq_false h0)
       refine tq_then (tq_cond false (by kernel_rfl) (fun h => ?_) (fun h => ?_))
       ·cases h
       ·refine tq_skip (qin_n ?_)
        refine tq_then (tq_reg (vc := [(IntKind.wrap .i64 ((c : Int) + 1)) = (((c + 1) : Nat) : Int)]) (E' := [(1, none, vint .i64 (n : Int)), (2, none, vstr p), (6, none, .p (.pel (.v (.func (.func 50) #[] vs.toArray)))), (30, none, .p ((eL eI 1 0) (l.Next.getD q []))), (31, none, vint .i64 (((l.Next.getD q []).length : Nat) : Int)), (32, none, vint .i64 (((c + 1) : Nat) : Int))]) [(0, vint .i64 (((c + 1) : Nat) : Int))] [1, 2, 6, 30, 31, 32] (by kernel_rfl) (al (wr64 (by omega) (by omega) (by omega)) (trivial)) (qlp_end (c + 1) ?_ ?_ ?_))
        ·show ((c + 1) ≤ 37)
         ·omega
        ·show 37 - (c + 1) < 37 - c
         omega
        ·intro A_ W_ hS
         exact qs_g (by exact fun _ h => h) (qs_proj (ts := [1, 2, 6, 30, 31, 32]) (by kernel_rfl) hS)
      ·intro hb
       refine nq_pre (F := noF) (E' := [(52, none, vbool true)]) (G' := fun w => ∃ z, z <+: extW l n q p ∧ Jx (pre ++ z) w) (fun a_ w_ hS => qs_proj (ts := [52]) (by kernel_rfl) (qs_set (d := vbool (bif (decide (0 ≤ (l.Next.getD q []).getD c 0)) then (!false) else false)) 52 (vbool true) (by kernel_rfl) (eqD_bool (by rw [hb]; rfl)) hS)) ?_
       refine tq_then (tq_cond true (by kernel_rfl) (fun h => ?_) (fun h => ?_))
       ·exact tq_seq (tq_reg (vc := []) (E' := [(10, none, vbool false)]) [] [10] (by kernel_rfl) trivial (tq_then (tq_return (rs := Try.f50.results) (R := extR l F Kp J Jx n q p pre W) (vc := []) (ds := [vbool false]) (by kernel_rfl) trivial (fun _ _ h => h) (fun w_ v_ hr hg => ⟨false, by rw [asBool_val (b := false) rfl hr], (fun h => by cases h), fun _ => hg⟩))))
       ·cases h
     ·refine tq_exit (tqh_e ?_)
      refine tqh_e ?_
      refine qin_hit ?_
      exact tq_then (tq_seq (tq_reg (vc := []) (E' := [(10, none, vbool true)]) [] [10] (by kernel_rfl) trivial (tq_then (tq_return (rs := Try.f50.results) (R := extR l F Kp J Jx n q p pre W) (vc := []) (ds := [vbool true]) (by kernel_rfl) trivial (fun _ _ h => h) (fun w_ v_ hr hg => ⟨true, by rw [asBool_val (b := true) rfl hr], fun _ => ⟨⟨by rw [extW_s (eq_true_of_ne_false hc1) (by omega)]; obtain rfl : c = 37 := (by omega); exact hg.1, hg.2⟩, hI.js _ _ hg.1⟩, fun h => by cases h⟩)))))
end Go.Proofs.Ytjnjmnfacaakfaa
namespace Go.Proofs.Ytjnjmnfacaakfaa
open Go.Eng
def allC (l : Lang) : Nat → List (List UInt8)
 | 0 => []
 | c + 1 => allC l c ++ extW l c 0 []
def allW (l : Lang) : List (List UInt8) := allC l 13
theorem allC_mono {l : Lang} : ∀ {c d : Nat}, c ≤ d → ∃ z, allC l d = allC l c ++ z
 | c, 0, h => by
   obtain rfl : c = 0 := by omega
   exact ⟨[], by simp⟩
 | c, d + 1, h => by
  by_cases hc : c = d + 1
  ·subst hc; exact ⟨[], by simp⟩
  ·obtain ⟨z, hz⟩ := allC_mono (l := l) (c := c) (d := d) (by omega)
   rw [allC, hz, List.append_assoc]
   exact ⟨_, rfl⟩
def KpB (bo B1 : Nat) (A B : World) : Prop := A.heap.size ≤ B.heap.size ∧ ∀ (k : Nat) c T fz, A.heap[k]? = some (.cells c T fz) → k ≠ bo → (k < B1 ∨ T ≠ 9) → B.heap[k]? = some (.cells c T fz)
theorem KpB.refl {bo B1 : Nat} (A : World) : KpB bo B1 A A := ⟨Nat.le_refl _, fun _ _ _ _ h _ _ => h⟩
theorem KpB.trans {bo B1 : Nat} {A B D : World} (h : KpB bo B1 A B) (k : KpB bo B1 B D) : KpB bo B1 A D := ⟨Nat.le_trans h.1 k.1, fun i c T fz h1 h2 h3 => k.2 i c T fz (h.2 i c T fz h1 h2 h3) h2 h3⟩
section
variable (l : Lang) (hok : check l = 0) (F : PHeap) (bo B1 : Nat) (v1 v2 v3 : Value)
def iterY (ly : Nat) : Value := .func (.yield ly) #[] #[]
def iterVs (v1 v2 : Value) (W : World) : List Value := [v1, .pointer (some ⟨W.heap.size, 0, none⟩), v2, .pointer (some ⟨W.heap.size + 1, 0, none⟩)]
def iterX (v1 v2 : Value) (W : World) : Value := .func (.func 50) #[] (iterVs v1 v2 W).toArray
def iterW (ly : Nat) (v1 v2 : Value) (W : World) : World := ((W.alloc (.cells #[iterY ly] 100)).alloc (.cells #[.nilFunc] 101)).setCell ⟨W.heap.size + 1, 0, none⟩ (iterX v1 v2 W)
theorem iterW_b1 {ly : Nat} {v1 v2 : Value} {W : World} : Boxed (iterW ly v1 v2 W) (W.heap.size + 1) 101 (iterX v1 v2 W) := by
 have := Boxed.new (W.alloc (.cells #[iterY ly] 100)) 101 .nilFunc
 rw [World.size_alloc] at this
 exact this.set _
theorem iterW_b0 {ly : Nat} {v1 v2 : Value} {W : World} : Boxed (iterW ly v1 v2 W) W.heap.size 100 (iterY ly) := by
 have h := (Boxed.new W 100 (iterY ly)).alloc (.cells #[.nilFunc] 101)
 exact h.kept (grownBy_setCell' _ _ _) (by simp)
theorem iterW_grown {ly : Nat} {v1 v2 : Value} {W : World} : W.grownBy (iterW ly v1 v2 W) none := by
 have h := grownBy_setCell' ((W.alloc (.cells #[iterY ly] 100)).alloc (.cells #[.nilFunc] 101)) (W.heap.size + 1) (iterX v1 v2 W)
 have h1 := World.grownBy_alloc W (.cells #[iterY ly] 100) none
 have h2 := World.grownBy_alloc (W.alloc (.cells #[iterY ly] 100)) (.cells #[.nilFunc] 101) none
 have hs := h1.size
 have hs2 := h2.size
 refine ⟨h.os.trans (h2.os.trans h1.os), h.tape.trans (h2.tape.trans h1.tape), h.output.trans (h2.output.trans h1.output), Nat.le_trans hs (Nat.le_trans hs2 h.size), fun k hk _ => ?_⟩
 exact (h.block k (by omega) (by simp; omega)).trans ((h2.block k (by omega) (by simp)).trans (h1.block k hk (by simp)))
def iterF (F : PHeap) (ly : Nat) (v1 v2 : Value) (W : World) : PHeap := fun b => if b = W.heap.size then some #[iterY ly] else if b = W.heap.size + 1 then some #[iterX v1 v2 W] else F b
def iterJ (F : PHeap) (J : Iw) (ly : Nat) (v1 v2 : Value) (W : World) : Iw := fun s A => J s A ∧ Boxed A W.heap.size 100 (iterY ly) ∧ Boxed A (W.heap.size + 1) 101 (iterX v1 v2 W) ∧ Sub F A
theorem iterF_old {F : PHeap} {ly : Nat} {v1 v2 : Value} {W : World} (hs : Sub F W) {b : Nat} {c : Array Value} (h : F b = some c) : iterF F ly v1 v2 W b = some c := by
 obtain ⟨T, fz, e⟩ := hs b c h
 have := (Array.getElem?_eq_some_iff.1 e).1
 unfold iterF
 rw [if_neg (by omega), if_neg (by omega)]
 exact h
theorem iter_H {F : PHeap} {J Jx : Iw} {bo B1 M m ly : Nat} {v1 v2 : Value} {W : World} (hs : Sub F W) (hBW : B1 ≤ W.heap.size) (hbo : bo < B1) (hF : ∀ b c, F b = some c → b ≠ bo ∧ b < B1) (hJ : AbidesFrom W.heap.size J)
  (hY : ∀ pre x W1, J pre W1 → pre.length < M → YieldAt Fence.wide m Try.prog ly #[.string ⟨List.toArray x⟩] W1 fun e W' => (e = .returned (.bool true) ∧ J (pre ++ [x]) W' ∧ KpB bo B1 W1 W') ∨ (e = .returned (.bool false) ∧ Jx (pre ++ [x]) W')) :
  IterH (iterF F ly v1 v2 W) (KpB bo B1) (iterJ F J ly v1 v2 W) Jx M m ly where
 dr := fun s A ⟨h1, h2, h3, h4⟩ => ⟨hJ s A _ none h1 ⟨rfl, rfl, rfl, Nat.le_refl _, fun _ _ _ => rfl⟩ (fun r e => by cases e), h2, h3, h4⟩
 kd := fun A B h => h
 kt := fun h k => h.trans k
 kr := KpB.refl
 js := fun s A ⟨_, h2, h3, h4⟩ b c hb => by
  unfold iterF at hb
  split at hb
  ·rename_i e; cases hb; rw [e]; exact ⟨_, _, h2⟩
  ·split at hb
   ·rename_i e; cases hb; rw [e]; exact ⟨_, _, h3⟩
   ·exact h4 b c hb
 yl := fun pre x A ⟨h1, h2, h3, h4⟩ hlt => by
  obtain ⟨fn, tmps, assign, body, q1, q2⟩ := hY pre x A h1 hlt
  refine ⟨fn, tmps, assign, body, q1, q2.mono fun e A' h => h.imp (fun ⟨a, b, k⟩ => ⟨a, ⟨b, k.2 _ _ _ _ h2 (by omega) (.inr (by decide)), k.2 _ _ _ _ h3 (by omega) (.inr (by decide)), fun b' c hb => ?_⟩, k⟩) id⟩
  obtain ⟨T, fz, e1⟩ := h4 b' c hb
  exact ⟨T, fz, k.2 _ _ _ _ e1 (hF b' c hb).1 (.inl (hF b' c hb).2)⟩
theorem sle_nil0 {F : PHeap} {a : Act} : SLE F noG [] a := fun u g d hu => by cases hu
theorem sle_cons {F : PHeap} {E : Env} {a : Act} {t : Nat} {d : D} {v : Value} (h1 : a.tmps[t]? = some v) (h2 : RelV F noG d v) (h3 : SLE F noG E a) : SLE F noG ((t, none, d) :: E) a := by
 intro u g d' hu
 simp only [Env.get] at hu
 cases hb : Nat.beq t u with
 | true =>
  rw [hb] at hu
  simp only [cond_true, Option.some.injEq, Prod.mk.injEq] at hu
  obtain ⟨rfl, rfl⟩ := hu
  rw [← Nat.eq_of_beq_eq_true hb]
  exact ⟨fun _ => ⟨v, h1, h2⟩, fun hn => absurd trivial hn⟩
 | false => rw [hb] at hu; exact h3 u g d' (by simpa using hu)
theorem iterW_eq (ly : Nat) (v1 v2 : Value) (W : World) : ((W.alloc (.cells #[Value.func (.yield ly) #[] #[]] 100)).alloc (.cells #[.nilFunc] 101)).setCell ⟨W.heap.size + 1, 0, none⟩ (.func (.func 50) #[] #[v1, .pointer (some ⟨W.heap.size, 0, none⟩), v2, .pointer (some ⟨W.heap.size + 1, 0, none⟩)]) = iterW ly v1 v2 W := rfl
set_option maxRecDepth 100000 in
theorem words1_ok (l : Lang) (hok : check l = 0) (F : PHeap) (bo B1 n : Nat) (v1 v2 v3 : Value) (w0 : World) (hs0 : Sub F w0) (hB1 : w0.heap.size = B1) (hbo : bo < B1) (hF : ∀ b c, F b = some c → b ≠ bo ∧ b < B1)
  (hv1 : RelP F (.pel (eL (eL eB 1 false) 1 [] (leadsL l 12))) [v1]) (hv2 : RelP F (.pel (eLang l)) [v2]) (hv3 : RelP F (.pel (.v (.int .i64 12))) [v3]) :
  SeqStopsK Fence.wide n Try.prog 49 #[v1, v2, v3] (fun x : List UInt8 => #[.string ⟨x.toArray⟩]) (KpB bo B1) (fun xs => xs = allW l) (fun pre => pre <+: allW l) (allW l).length w0 := by
 intro ly J Jx W hW hJ hJx hY h0
 have hBW : B1 ≤ W.heap.size := by rw [← hB1]; exact hW.size
 have hs : Sub F W := fun b c hb => by
  obtain ⟨T, fz, e⟩ := hs0 b c hb
  have hlt := (Array.getElem?_eq_some_iff.1 e).1
  exact ⟨T, fz, (hW.block b hlt).trans e⟩
 have hI := iter_H (v1 := v1) (v2 := v2) hs hBW hbo hF hJ hY
 obtain ⟨f1, f2, f3, f4⟩ := check_facts hok
 refine callsIn_wide.2 ?_
 have hW2 := iterW_grown (ly := ly) (v1 := v1) (v2 := v2) (W := W)
 have hJ0 : iterJ F J ly v1 v2 W [] (iterW ly v1 v2 W) := ⟨hJ [] W _ none h0 hW2 (fun r e => by cases e), iterW_b0, iterW_b1, fun b c hb => by
  obtain ⟨T, fz, e⟩ := hs b c hb
  exact ⟨T, fz, (hW2.block b (Array.getElem?_eq_some_iff.1 e).1 (by simp)).trans e⟩⟩
 have hc1 : ((W.alloc (.cells #[Value.func (.yield ly) #[] #[]] 100)).alloc (.cells #[.nilFunc] 101)).cell? ⟨W.heap.size + 1, 0, none⟩ = some .nilFunc := by
  have := (Boxed.new (W.alloc (.cells #[Value.func (.yield ly) #[] #[]] 100)) 101 .nilFunc).cell
  rwa [World.size_alloc] at this
 have hf1 : ((W.alloc (.cells #[Value.func (.yield ly) #[] #[]] 100)).alloc (.cells #[.nilFunc] 101)).frozen? ⟨W.heap.size + 1, 0, none⟩ = false := by
  have := (Boxed.new (W.alloc (.cells #[Value.func (.yield ly) #[] #[]] 100)) 101 .nilFunc).frozen
  rwa [World.size_alloc] at this
 cases hv3 with
 | @pel _ b3 o3 c3 g1 g2 g3 =>
 have hm2 : (iterW ly v1 v2 W).cell? ⟨b3, o3, none⟩ = some (.int .i64 12) := by
  obtain ⟨T, fz, e⟩ := hJ0.2.2.2 b3 c3 g1
  have g4 : (c3.toList.drop o3).take 1 = [Value.int .i64 12] := by
   have := g3
   rw [show PV.size (.v (.int .i64 12)) = 1 from rfl] at this
   generalize (c3.toList.drop o3).take 1 = q at this
   cases this; rfl
  have := cell_at (off := o3) (n := 1) e g2 0 (.int .i64 12) (by rw [g4]; rfl)
  simpa [Addr.add] using this
 have hm3 : (((W.alloc (.cells #[Value.func (.yield ly) #[] #[]] 100)).alloc (.cells #[.nilFunc] 101)).setCell ⟨W.heap.size + 1, 0, none⟩ (.func (.func 50) #[] #[v1, .pointer (some ⟨W.heap.size, 0, none⟩), v2, .pointer (some ⟨W.heap.size + 1, 0, none⟩)])).cell? ⟨b3, o3, none⟩ = some (.int .i64 12) := hm2
 show Calls Try.prog 49 #[.func (.yield ly) #[] #[], v1, v2, .pointer (some ⟨b3, o3, none⟩)] W _
 go_enter Try.func49, Try.ntmps49
 go_wp2
 have hst : (store ⟨W.heap.size + 1, 0, none⟩ (.func (.func 50) #[] #[v1, .pointer (some ⟨W.heap.size, 0, none⟩), v2, .pointer (some ⟨W.heap.size + 1, 0, none⟩)])).run Try.prog ((W.alloc (.cells #[Value.func (.yield ly) #[] #[]] 100)).alloc (.cells #[.nilFunc] 101)) = .ok () (iterW ly v1 v2 W) := by
  rw [← iterW_eq]
  rw [run_store _ _ _ _ _ rfl, hc1, hf1]
  rfl
 rw [hst]
 simp only [Result.andThen_ok]
 go_wp2
 have fin : ∀ {e : Exit} {N : Nat} {F0 : PHeap} {E0 : Env} {G0 : World → Prop} {a : Act} {w : World}, (e = .ret ∨ e = .normal) → QS N F0 E0 G0 a w → (G0 w → (∃ xs, xs = allW l ∧ J xs w) ∨ (∃ pre, pre <+: allW l ∧ Jx pre w)) →
   bodyPost Try.prog Try.f49 (fun e W' => (∃ v, e = .returned v) ∧ ((∃ xs, xs = allW l ∧ J xs W') ∨ (∃ pre, pre <+: allW l ∧ Jx pre W'))) e a w := by
  intro e N F0 E0 G0 a w he hS hG
  obtain ⟨hD, v, h1, h2⟩ := retq_of (P := Try.prog) (rs := #[]) (vc := []) (ds := []) (R := fun e W' => (∃ v, e = .returned v) ∧ ((∃ xs, xs = allW l ∧ J xs W') ∨ (∃ pre, pre <+: allW l ∧ Jx pre W'))) (by kernel_rfl) trivial hS (fun v _ hg => ⟨⟨v, rfl⟩, hG hg⟩)
  rcases he with rfl | rfl
  ·exact ⟨hD, v, h1 Try.f49 rfl, h2⟩
  ·exact ⟨hD, v, h1 Try.f49 rfl, h2⟩
 refine tq_loop (P := Try.prog) (N := 18) (F := iterF F ly v1 v2 W) (E := [(5, none, .p (.pel (.v (iterX v1 v2 W)))), (9, none, vint .i64 13), (10, none, vint .i64 ((0 : Nat) : Int))]) (G := iterJ F J ly v1 v2 W []) (α := Nat)
  (fun c => [(5, none, .p (.pel (.v (iterX v1 v2 W)))), (9, none, vint .i64 13), (10, none, vint .i64 (c : Int))]) (fun c => iterJ F J ly v1 v2 W (allC l c)) (fun c => c ≤ 13) (fun c => 13 - c) 0 (by omega) (fun _ _ h => h) ?_ _ _ ⟨?_, rfl, rfl, hI.js _ _ hJ0, hJ0⟩
 ·intro c hc
  refine tq_seq (tq_reg (vc := []) (E' := [(5, none, .p (.pel (.v (iterX v1 v2 W)))), (9, none, vint .i64 13), (10, none, vint .i64 (c : Int)), (11, none, vbool (decide ((c : Int) < 13)))]) [] [5, 9, 10, 11] (by kernel_rfl) trivial (tq_then (tq_seq (tq_condP (decide ((c : Int) < 13)) ((c : Int) < 13) (by simp) (by kernel_rfl) (fun h1 => ?_) (fun h1 => ?_)))))
  ·refine tq_skip (tq_then (tq_seq (tq_block (tq_seq (tq_reg (vc := []) (E' := [(5, none, .p (.pel (.v (iterX v1 v2 W)))), (6, none, vint .i64 (c : Int)), (9, none, vint .i64 13), (10, none, vint .i64 (c : Int))]) [] [5, 6, 9, 10] (by kernel_rfl) trivial (tq_then (tq_seq ?_)))))))
   obtain ⟨y2, hy2⟩ := allC_mono (l := l) (c := c + 1) (d := 13) (by omega)
   have hN : (allC l c).length + (extW l c 0 []).length ≤ (allW l).length := by
    unfold allW
    rw [hy2, allC]
    simp
   refine tq_callC (f := 50) (vc := []) (Gt := iterJ F J ly v1 v2 W (allC l (c + 1))) (Gf := fun w => ∃ z, z <+: extW l c 0 [] ∧ Jx (allC l c ++ z) w) (E1 := [(5, none, .p (.pel (.v (iterX v1 v2 W)))), (9, none, vint .i64 13), (10, none, vint .i64 (c : Int)), (13, none, .p (.v (iterX v1 v2 W))), (14, none, vint .i64 (c : Int))])
    (EA := [(5, none, .p (.pel (.v (iterX v1 v2 W)))), (9, none, vint .i64 13), (10, none, vint .i64 (c : Int)), (16, none, vbool false)]) (EB := [(16, none, vbool true), (15, none, vbool false)]) 2 [5, 9, 10, 13, 14] [5, 9, 10, 16] (by kernel_rfl) trivial rfl rfl rfl rfl (by kernel_rfl) (by kernel_rfl) (by kernel_rfl) (by kernel_rfl) ?_ ?_ ?_
   ·intro a_ w_ hS
    refine ⟨(iterVs v1 v2 W).toArray, eval_v (x := iterX v1 v2 W) hS.e (by kernel_rfl), ?_⟩
    have e1 := eval_v (x := .int .i64 (c : Int)) (t := 14) hS.e (by kernel_rfl)
    rw [show (#[Operand.const (.int .i64 0), Operand.tmp 14, Operand.const (.string { data := #[] })].map a_.eval) = #[.int .i64 ((0 : Nat) : Int), a_.eval (.tmp 14), .string ⟨List.toArray []⟩] from by simp [Act.eval], e1]
    have hc := ext_ok l hok (iterF F ly v1 v2 W) (KpB bo B1) (iterJ F J ly v1 v2 W) Jx _ _ ly hI (iterVs v1 v2 W) rfl (fun i p v h1 h2 => by
     match i with
     | 0 => cases h1; cases h2; exact hv1.mono fun b c hb => iterF_old hs hb
     | 1 =>
      cases h1; cases h2
      exact .pel (c := #[iterY ly]) (by simp [iterF]) (by simp [PV.size]) (.v rfl)
     | 2 => cases h1; cases h2; exact hv2.mono fun b c hb => iterF_old hs hb
     | 3 =>
      cases h1; cases h2
      exact .pel (c := #[iterX v1 v2 W]) (by simp [iterF]) (by simp [PV.size]) (.v rfl)
     | i + 4 => simp [capsX] at h1) c 0 [] (allC l c) w_ (by omega) (by omega) (by simp; omega) hN hS.s hS.g
    unfold ExtP at hc
    refine hc.mono ?_
    rintro e w' ⟨r, rfl, k1, k2⟩
    exact ⟨r, rfl, fun h => ⟨(k1 h).1.1, (k1 h).2⟩, k2⟩
   ·refine tq_then (tq_cond false (by kernel_rfl) (fun h => ?_) (fun h => ?_))
    ·cases h
    ·refine tq_skip (qin_n ?_)
     exact tq_then (tq_reg (vc := [IntKind.wrap .i64 ((c : Int) + 1) = ((c + 1 : Nat) : Int)]) (E' := [(5, none, .p (.pel (.v (iterX v1 v2 W)))), (9, none, vint .i64 13), (10, none, vint .i64 ((c + 1 : Nat) : Int))]) [(0, vint .i64 ((c + 1 : Nat) : Int))] [5, 9, 10] (by kernel_rfl) (wr64 (by omega) (by omega) (by omega)) (qlp_end (c + 1) (by show c + 1 ≤ 13; omega) (by show 13 - (c + 1) < 13 - c; omega) (fun _ _ h => h)))
   ·refine tq_then (tq_cond true (by kernel_rfl) (fun h => ?_) (fun h => ?_))
    ·exact tq_ret fun a_ w_ hS => (fin (.inl rfl) hS fun ⟨z, ⟨y, hz⟩, hj⟩ => .inr ⟨allC l c ++ z, ⟨y ++ y2, by unfold allW; rw [hy2, allC, ← hz]; simp⟩, hj⟩)
    ·cases h
  ·refine tq_exit (tqh_e ?_)
   refine tqh_e ?_
   refine qin_hit ?_
   exact fun a_ w_ hS => fin (.inr rfl) hS fun hg => .inl ⟨allW l, rfl, by obtain rfl : c = 13 := (by omega); exact hg.1⟩
 ·refine sle_cons rfl (.one rfl (.p (.pel (c := #[iterX v1 v2 W]) (by simp [iterF]) (by simp [PV.size]) (.v rfl)))) (sle_cons rfl relV_int (sle_cons rfl relV_int sle_nil0))
end
end Go.Proofs.Ytjnjmnfacaakfaa
namespace Go.Proofs.Ytjnjmnfacaakfaa
open Go.Eng Go.RowKit Go.Shelf
theorem fn3 {F : PHeap} {a b c : PV} {vs : List Value} (h : RelD F noG (.agg [.p (.pel a), .p (.pel b), .p (.pel c)]) vs) : ∃ v1 v2 v3, vs = [v1, v2, v3] ∧ RelP F (.pel a) [v1] ∧ RelP F (.pel b) [v2] ∧ RelP F (.pel c) [v3] := by
 have one : ∀ {x : PV} {cs : List Value}, RelD F noG (.p (.pel x)) cs → ∃ v, cs = [v] ∧ RelP F (.pel x) [v] := fun h => by
  cases h with
  | p h => cases h with
   | pel a1 a2 a3 => exact ⟨_, rfl, .pel a1 a2 a3⟩
 cases h with
 | cons h1 h =>
  cases h with
  | cons h2 h =>
   cases h with
   | cons h3 h =>
    cases h with
    | nil =>
     obtain ⟨v1, rfl, q1⟩ := one h1
     obtain ⟨v2, rfl, q2⟩ := one h2
     obtain ⟨v3, rfl, q3⟩ := one h3
     exact ⟨v1, v2, v3, rfl, q1, q2, q3⟩
theorem appendedK {W w1 : World} {bo B1 n0 : Nat} {v v' : Value} {k m : Nat} {xs ys : List Value} {tmp : Obj} (hv : Boxed W bo 28 v) (hrow : W.ownsRow B1 9 1 v k xs) (hBW : B1 ≤ W.heap.size) (hbo : bo < B1) (hn0 : n0 ≤ bo)
  (hown' : w1.ownsRow B1 9 1 v' m ys) (hgrow : (W.alloc tmp).grownBy w1 v.ownBlock) :
  Boxed w1 bo 28 v ∧ Boxed (w1.setCell ⟨bo, 0, none⟩ v') bo 28 v' ∧ (w1.setCell ⟨bo, 0, none⟩ v').ownsRow B1 9 1 v' m ys ∧ KeepsOthers W (w1.setCell ⟨bo, 0, none⟩ v') ∧ KpB bo B1 W (w1.setCell ⟨bo, 0, none⟩ v') ∧ Below n0 W (w1.setCell ⟨bo, 0, none⟩ v') := by
 have hv1 : Boxed w1 bo 28 v := (hv.alloc tmp).kept hgrow (hv.not_row (by decide) hrow)
 refine ⟨hv1, hv1.set v', hown'.kept (grownBy_setCell' w1 bo v') (.inr (hv1.not_row (by decide) hown').symm), ?_, ?_, ?_⟩
 ·refine ((KeepsOthers.alloc W tmp).trans (KeepsOthers.of_grownBy hgrow fun j o ej hj => ?_)).trans (KeepsOthers.setCell _ _ _)
  rcases (hrow.alloc tmp).2 with ⟨rfl, _⟩ | ⟨g, cap, cur, rfl, _, hgb, _⟩
  ·simp [Value.ownBlock] at ej
  ·obtain rfl : g = j := by simpa [Value.ownBlock] using ej
   rw [hgb] at hj; cases hj; rfl
 ·have hsz : W.heap.size ≤ w1.heap.size := by have := hgrow.size; simp at this; omega
  have hg2 := grownBy_setCell' w1 bo v'
  refine ⟨Nat.le_trans hsz hg2.size, fun i c T fz hi hne hor => ?_⟩
  have hlt : i < W.heap.size := (Array.getElem?_eq_some_iff.1 hi).1
  have e1 : (W.alloc tmp).heap[i]? = some (.cells c T fz) := (heap_alloc_old W tmp hlt).trans hi
  have e2 : w1.heap[i]? = (W.alloc tmp).heap[i]? := hgrow.block i (by simp; omega) (fun e => by
   rcases hrow.2 with ⟨rfl, _⟩ | ⟨g, cap, cur, rfl, hb, hgb, _⟩
   ·simp [Value.ownBlock] at e
   ·obtain rfl : i = g := by simpa [Value.ownBlock] using e
    rw [hgb] at hi
    cases hi
    rcases hor with h | h
    ·omega
    ·exact h rfl)
  exact (hg2.block i (by omega) (by simpa using hne)).trans (e2.trans e1)
 ·refine (((Below.refl n0 W).alloc (by omega) tmp).grown hgrow (by simp; omega) fun j ej => ?_).setCell (p := ⟨bo, 0, none⟩) hn0 v'
  rcases hrow.2 with ⟨rfl, _⟩ | ⟨g, cap, cur, rfl, hb, _, _⟩
  ·simp [Value.ownBlock] at ej
  ·obtain rfl : g = j := by simpa [Value.ownBlock] using ej
   omega
def sV (x : List UInt8) : Value := .string ⟨x.toArray⟩
theorem info9 : (Try.prog.info? 9).map (fun i => (i.zero, i.size, i.bytes)) = some (some (.string ⟨#[]⟩), 1, 16) := by kernel_rfl
theorem underlying28 : Try.prog.underlying 28 = some (.slice 9) := by kernel_rfl
theorem first_fin {w W : World} {F : PHeap} {B1 : Nat} {v : Value} {pre : List (List UInt8)} (hs : Eng.Sub F w) (hB : Below w.heap.size w W) (hB1 : w.heap.size ≤ B1) (hrow : W.ownsRow B1 9 1 v pre.length (pre.map sV)) :
  ∃ F', Eng.Sub F' W ∧ (∀ k, k < w.heap.size → F' k = F k) ∧ Grew w W ∧ RelV F' noG (.p (eL eS 1 [] pre)) v := by
 have hsW : Eng.Sub F W := fun b c hb => by
  obtain ⟨T, fz, e⟩ := hs b c hb
  exact ⟨T, fz, (hB.block b (Array.getElem?_eq_some_iff.1 e).1).trans e⟩
 have hg := Grew.of_below hB
 rcases hrow.2 with ⟨rfl, h0⟩ | ⟨g, cap, cur, rfl, h1, h2, h3⟩
 ·exact ⟨F, hsW, fun _ _ => rfl, hg, by
   have : pre = [] := List.length_eq_zero_iff.1 (by simpa using h0)
   subst this
   exact .one rfl (.p .lst0)⟩
 ·obtain ⟨h3, h4, h5, h6⟩ := h3
  have hF : ∀ b c, F b = some c → (if b = g then some cur else F b) = some c := fun b c hb => by
   rw [if_neg (fun e => by obtain ⟨T, fz, e1⟩ := hs b c hb; have := (Array.getElem?_eq_some_iff.1 e1).1; omega)]; exact hb
  refine ⟨fun b => if b = g then some cur else F b, fun b c hb => ?_, fun k hk => ?_, hg, .one rfl (.p (.lst (b := g) (off := 0) (c := cur) (by simp) h3 (by omega) fun i hi => ?_))⟩
  ·simp only at hb
   split at hb
   ·rename_i e; cases hb; rw [e]; exact ⟨_, _, h2⟩
   ·exact hsW b c hb
  ·simp only
   rw [if_neg (by omega)]
  ·have e1 : (cur.toList.drop (0 + i * 1)).take 1 = [sV (pre.getD i [])] := by
    have h7 : cur.toList[i]? = some (sV (pre.getD i [])) := by
     have := congrArg (fun l => l[i]?) h6
     simp only [List.getElem?_take, List.getElem?_map] at this
     rw [if_pos (by omega)] at this
     rw [this]
     simp [List.getD, List.getElem?_eq_getElem hi]
    obtain ⟨hlt, h8⟩ := List.getElem?_eq_some_iff.1 h7
    rw [show 0 + i * 1 = i by omega, List.drop_eq_getElem_cons hlt, h8]
    rfl
   rw [e1]
   exact .s
attribute [local go_sem] Oper.semAt_some
theorem cell_b {W : World} {B : Nat} {c : Array Value} {t : TypeId} (h : W.heap[B]? = some (.cells c t (0, 0))) {j : Nat} {v : Value} (hj : c[j]? = some v) : W.cell? ⟨B, j, none⟩ = some v := by
 have hlt := (Array.getElem?_eq_some_iff.1 hj).1
 simp [World.cell?, h, hj]
set_option maxRecDepth 100000 in
set_option maxHeartbeats 2000000 in
theorem First_go (l : Lang) (hok : check l = 0) (most : Int) (hm1 : 1 ≤ most) (F : PHeap) (w : World) (hs : Sub F w) (sa sn : Value) (hl : RelP F (eLang l) [sa, sn]) :
  Calls Try.prog 14 #[.agg #[sa, sn], .int .i64 most] w fun e w' => ∃ v F', e = .returned v ∧ Sub F' w' ∧ (∀ k, k < w.heap.size → F' k = F k) ∧ Grew w w' ∧ RelV F' noG (.p (eL eS 1 [] ((allW l).take (min most 100).toNat))) v := by
 refine (callsIn_wide (n := 3)).1 ?_
 refine callsIn_of_wp_marks Try.func14 rfl trivial ?_ rfl
 simp only [Try.ntmps14, List.size_toArray, List.length_cons, List.length_nil, Nat.reduceAdd, Nat.reduceSub, Array.replicate_succ, Array.replicate_zero, List.push_toArray, List.append_toArray, List.nil_append, List.cons_append]
 have hb0 : (w.alloc (.cells #[sa, sn] 32)).heap[w.heap.size]? = some (.cells #[sa, sn] 32 (0, 0)) := World.alloc_heap_new w _
 have hA : ((w.alloc (.cells #[sa, sn] 32)).alloc (.cells #[.int .i64 most] 3)).heap[w.heap.size]? = some (.cells #[sa, sn] 32 (0, 0)) := by
  rw [heap_alloc_old _ _ (by simp)]; exact hb0
 have hc0 := cell_b hA (j := 0) rfl
 have hc1 := cell_b hA (j := 1) rfl
 have hA1 : ((w.alloc (.cells #[sa, sn] 32)).alloc (.cells #[.int .i64 most] 3)).heap[w.heap.size + 1]? = some (.cells #[.int .i64 most] 3 (0, 0)) := by
  have := World.alloc_heap_new (w.alloc (.cells #[sa, sn] 32)) (.cells #[.int .i64 most] 3)
  rwa [World.size_alloc] at this
 have hgA : Grew w ((w.alloc (.cells #[sa, sn] 32)).alloc (.cells #[.int .i64 most] 3)) := (grew_alloc w _).trans (grew_alloc _ _)
 have hsA : Eng.Sub F ((w.alloc (.cells #[sa, sn] 32)).alloc (.cells #[.int .i64 most] 3)) := fun b c hb => by
  obtain ⟨T, fz, e⟩ := hs b c hb
  exact ⟨T, fz, (hgA.block b (Array.getElem?_eq_some_iff.1 e).1).trans e⟩
 have hrl : RelV F noG (.p (eLang l)) (.agg #[sa, sn]) := .many (cs := [sa, sn]) rfl (.p hl)
 have hck := check_ok l F _ [.agg #[sa, sn]] hsA rfl (fun i p v h1 h2 => by
  match i with
  | 0 => cases h1; cases h2; exact hrl
  | i + 1 => simp at h1)
 have hsz : ((w.alloc (.cells #[sa, sn] 32)).alloc (.cells #[.int .i64 most] 3)).heap.size = w.heap.size + 2 := by simp
 generalize hWA : (w.alloc (.cells #[sa, sn] 32)).alloc (.cells #[.int .i64 most] 3) = WA at *
 gi_wp2
 refine ⟨trivial, (callsIn_wide.2 hck).mono ?_⟩
 rintro e w1 ⟨v, F1, rfl, s1, x1, g1, r1⟩
 rw [hok] at r1
 obtain rfl := asInt_val (k := .i64) (n := 0) rfl r1
 have hB0 : w1.heap[w.heap.size]? = some (.cells #[sa, sn] 32 (0, 0)) := (g1.block _ (by omega)).trans hA
 have hB1 : w1.heap[w.heap.size + 1]? = some (.cells #[.int .i64 most] 3 (0, 0)) := (g1.block _ (by omega)).trans hA1
 have hm := cell_b hB1 (j := 0) rfl
 have hsz1 : w.heap.size + 2 ≤ w1.heap.size := by have := g1.size; omega
 have hC0 : (w1.alloc (.cells #[.slice none 0 0] 28)).heap[w.heap.size]? = some (.cells #[sa, sn] 32 (0, 0)) := (heap_alloc_old _ _ (by omega)).trans hB0
 have hd0 := cell_b hC0 (j := 0) rfl
 have hd1 := cell_b hC0 (j := 1) rfl
 gi_wp2
 have hg3 : Grew w1 (w1.alloc (.cells #[.slice none 0 0] 28)) := grew_alloc w1 _
 have s1' : Eng.Sub F1 (w1.alloc (.cells #[.slice none 0 0] 28)) := fun b c hb => by
  obtain ⟨T, fz, e⟩ := s1 b c hb
  exact ⟨T, fz, (hg3.block b (Array.getElem?_eq_some_iff.1 e).1).trans e⟩
 have hFF1 : ∀ b c, F b = some c → F1 b = some c := fun b c hb => by
  rw [x1 b (sub_lt (slh_base (P := Try.prog) (N := 0) hsA) hb)]; exact hb
 have hwd := words_ok l hok F1 _ [.agg #[sa, sn], .int .i64 12] s1' rfl (fun i p v h1 h2 => by
  match i with
  | 0 => cases h1; cases h2; exact .many (cs := [sa, sn]) rfl (.p (hl.mono hFF1))
  | 1 => cases h1; cases h2; exact relV_int
  | i + 2 => simp at h1)
 refine ⟨trivial, (callsIn_wide.2 hwd).mono ?_⟩
 rintro e w2 ⟨v, F2, rfl, s2, x2, g2, r2⟩
 obtain ⟨v1, v2, v3, rfl, q1, q2, q3⟩ : ∃ v1 v2 v3, v = .func (.func 49) #[] #[v1, v2, v3] ∧ RelP F2 (.pel (eL (eL eB 1 false) 1 [] (leadsL l 12))) [v1] ∧ RelP F2 (.pel (eLang l)) [v2] ∧ RelP F2 (.pel (.v (.int .i64 12))) [v3] := by
  cases r2 with
  | one _ r2 =>
   cases r2 with
   | fn r2 => obtain ⟨v1, v2, v3, rfl, q⟩ := fn3 r2; exact ⟨v1, v2, v3, rfl, q⟩
  | many hm => cases hm
 gi_wp2
 obtain ⟨i0, hi, hz0, hz1, hz2⟩ := info_parts info9
 have hsz3 : (w1.alloc (.cells #[.slice none 0 0] 28)).heap.size = w1.heap.size + 1 := by simp
 have hg2s := g2.size
 have hbo : w1.heap.size < w2.heap.size := by omega
 have hOut : Boxed w2 w1.heap.size 28 (.slice none 0 0) := (g2.block _ (by omega)).trans (World.alloc_heap_new w1 _)
 have hMost : Boxed w2 (w.heap.size + 1) 3 (.int .i64 most) := (g2.block _ (by omega)).trans ((heap_alloc_old _ _ (by omega)).trans hB1)
 have hgw : Grew w w2 := (((hWA ▸ hgA : Grew w WA).trans g1).trans hg3).trans g2
 have hBel : Below w.heap.size w w2 := hgw.below
 have hF2 : ∀ b c, F2 b = some c → b ≠ w1.heap.size ∧ b < w2.heap.size := fun b c hb => by
  refine ⟨fun e => ?_, sub_lt (slh_base (P := Try.prog) (N := 0) s2) hb⟩
  subst e
  have h1 := x2 w1.heap.size (by omega)
  rw [h1] at hb
  have := sub_lt (slh_base (P := Try.prog) (N := 0) s1) hb
  omega
 obtain ⟨mm, hmm⟩ : ∃ mm, mm = (min most 100).toNat := ⟨_, rfl⟩
 refine wpIn_rangeFunc_ownF (encs := fun x : List UInt8 => #[.string ⟨x.toArray⟩]) rfl (by omega) (gf := 49) (lb := #[v1, v2, v3]) rfl trivial (enters_of Try.func49 (by kernel_rfl) rfl)
  (words1_ok l hok F2 w1.heap.size w2.heap.size _ v1 v2 v3 w2 s2 rfl hbo hF2 q1 q2 q3) (fun h k => h.trans k) ?hKb (Below.refl _ _) (fun _ => rfl)
  (fun pre W => ((∃ v, Boxed W w1.heap.size 28 v ∧ W.ownsRow w2.heap.size 9 1 v pre.length (pre.map sV) ∧ True) ∧ Boxed W (w.heap.size + 1) 3 (.int .i64 most)) ∧ Below w.heap.size w W ∧ w2.heap.size ≤ W.heap.size ∧ pre.length < mm)
  (fun c pre W => ((∃ v, Boxed W w1.heap.size 28 v ∧ W.ownsRow w2.heap.size 9 1 v pre.length (pre.map sV) ∧ True) ∧ Boxed W (w.heap.size + 1) 3 (.int .i64 most)) ∧ Below w.heap.size w W ∧ w2.heap.size ≤ W.heap.size ∧ (pre.length = mm ∧ c = .exit 0))
  ?hI ?hIx ⟨⟨⟨_, hOut, World.ownsRow_nil _ _ _ _, trivial⟩, hMost⟩, hBel, Nat.le_refl _, by simp; omega⟩
  (fun x => { tmps := #[.agg #[sa, sn], .int .i64 most, .pointer (some ⟨w.heap.size, 0, none⟩), .pointer (some ⟨w.heap.size + 1, 0, none⟩), .slice none 0 0, .pointer (some ⟨w1.heap.size, 0, none⟩), .string ⟨x.toArray⟩, .agg #[sa, sn], .int .i64 0, .bool false, .bool false, .int .i64 most,
   .bool (decide (most < 1)), .bool (decide (most < 1)), .agg #[sa, sn], .func (.func 49) #[] #[v1, v2, v3], .string ⟨x.toArray⟩, undef, undef, undef, undef, undef, undef, undef, undef, undef, undef], defers := [] }) ?assign ?body ?done ?stop
 case hKb =>
  intro A k o o' hk ho hoc how
  refine ⟨by simp [World.putObj], fun i c T fz hi _ _ => ?_⟩
  exact (World.putObj_heap_other (fun e => by subst e; rw [hi] at ho; cases ho; cases hoc)).trans hi
 case hI =>
  rintro pre A A' row ⟨⟨h1, h2⟩, h3, h4, h5⟩ hg hr
  refine ⟨⟨holdsRow_own w2.heap.size w1.heap.size 28 9 1 (fun pre : List (List UInt8) => pre.length) (fun pre => pre.map sV) (fun _ _ => True) pre A A' row h1 hg (fun r e => (hr r e).2), Boxed.kept h2 hg (fun e => ?_)⟩, ownFrom_below (w₀ := w) (β := Unit) (Nat.le_refl _) (by omega) () A A' row h3 hg hr, Nat.le_trans h4 hg.size, h5⟩
  obtain ⟨_, o, ho, hoc⟩ := hr _ e.symm
  rw [show A.heap[w.heap.size + 1]? = _ from h2] at ho
  cases ho
  cases hoc
 case hIx =>
  intro c
  rintro pre A A' row ⟨⟨h1, h2⟩, h3, h4, h5⟩ hg hr
  refine ⟨⟨holdsRow_own w2.heap.size w1.heap.size 28 9 1 (fun pre : List (List UInt8) => pre.length) (fun pre => pre.map sV) (fun _ _ => True) pre A A' row h1 hg (fun r e => (hr r e).2), Boxed.kept h2 hg (fun e => ?_)⟩, ownFrom_below (w₀ := w) (β := Unit) (Nat.le_refl _) (by omega) () A A' row h3 hg hr, Nat.le_trans h4 hg.size, h5⟩
  obtain ⟨_, o, ho, hoc⟩ := hr _ e.symm
  rw [show A.heap[w.heap.size + 1]? = _ from h2] at ho
  cases ho
  cases hoc
 case assign =>
  intro ly x W K hK
  gi_wp2
  exact hK
 case body =>
  rintro ly pre x W ⟨⟨⟨v, hv, hrow, _⟩, hMo⟩, hB, hW2, hlt⟩ _
  have hc := hv.cell
  have hmc := hMo.cell
  have h100 : pre.length < 100 := by clear hc hmc; omega
  have hb1 : pre.length + 1 ≤ maxLen := Nat.le_trans (show pre.length + 1 ≤ 100 by omega) (Nat.le_of_ble_eq_true rfl)
  have hb2 : (pre.length + 1) * 16 ≤ 140737488355328 := by omega
  have hb3 : w2.heap.size ≤ (W.alloc (.cells #[.string ⟨x.toArray⟩] 9)).heap.size := by rw [World.size_alloc]; omega
  have hwb : w.heap.size ≤ w1.heap.size := by omega
  have hmne : w.heap.size + 1 ≠ w1.heap.size := by omega
  have hmlt : w.heap.size + 1 < w2.heap.size := by omega
  gi_wp2_with (gi_at_builtin; refine wpListIn_append_own _ rfl _ _ 28 rfl w2.heap.size 9 i0 (.string ⟨#[]⟩) 1 16 underlying28 hi hz0 hz1 hz2 rfl (by decide) _ _ _ rfl (hrow.alloc _) ⟨W.heap.size, 0, none⟩ 1 1 [.string ⟨x.toArray⟩] rfl rfl (cell_one_new _ _ _) (by simp [Value.oneCell']) hb1 hb2 hb3 ?_; intro v' w1' hown' hgrow _; obtain ⟨g', cap', rfl⟩ := ownsRow_succ hown'; obtain ⟨hv1, hv2, hr2, hk2, hKp, hb2'⟩ := appendedK (n0 := w.heap.size) hv hrow hW2 hbo hwb hown' hgrow; have hc1 := hv1.cell; have hf1 := hv1.frozen; have hmo2 := hKp.2 _ _ _ _ hMo hmne (.inl hmlt); have hmc2 := Boxed.cell (B := w.heap.size + 1) (t := 3) (v := .int .i64 most) hmo2)
  ·refine ⟨hk2, ⟨⟨_, hv2, by simpa [sV] using hr2, trivial⟩, hmo2⟩, hB.trans hb2', Nat.le_trans hW2 hKp.1, ?_, rfl⟩
   have he : ((pre.length : Int) + 1 == min most 100) = true := by assumption
   rw [beq_iff_eq] at he
   simp only [List.length_append, List.length_singleton]
   omega
  ·refine ⟨hk2, hKp, ⟨⟨_, hv2, by simpa [sV] using hr2, trivial⟩, hmo2⟩, hB.trans hb2', Nat.le_trans hW2 hKp.1, ?_⟩
   have he : ((pre.length : Int) + 1 == min most 100) = false := by assumption
   rw [beq_eq_false_iff_ne] at he
   simp only [List.length_append, List.length_singleton]
   omega
 case done =>
  rintro D xs W hD rfl ⟨⟨⟨v, hv, hrow, _⟩, _⟩, hB, hW2, hlt⟩ hK
  have hc := hv.cell
  gi_wp2
  refine ⟨by simp, .inl ⟨_, _, rfl, run_takeDeferred hK, ?_⟩⟩
  obtain ⟨F', y1, y2, y3, y4⟩ := first_fin hs (hB.trans (belowK_b (w := w2) (by omega) W D _ (.deferred none) hD hK rfl rfl)) (by omega) (ownsRow_putObj hrow (.deferred none) hK rfl)
  refine ⟨_, results_tmp rfl _ _ _, _, F', rfl, y1, y2, y3, ?_⟩
  rw [List.take_of_length_le (by omega)]
  exact y4
 case stop =>
  rintro D c pre W hD hpre ⟨⟨⟨v, hv, hrow, _⟩, _⟩, hB, hW2, hlen, rfl⟩ hK
  have hc := hv.cell
  gi_wp2
  refine ⟨by simp, .inl ⟨_, _, rfl, run_takeDeferred hK, ?_⟩⟩
  obtain ⟨F', y1, y2, y3, y4⟩ := first_fin hs (hB.trans (belowK_b (w := w2) (by omega) W D _ (.deferred none) hD hK rfl rfl)) (by omega) (ownsRow_putObj hrow (.deferred none) hK rfl)
  refine ⟨_, results_tmp rfl _ _ _, _, F', rfl, y1, y2, y3, ?_⟩
  rw [← hmm, ← hlen, ← List.prefix_iff_eq_take.1 hpre]
  exact y4
end Go.Proofs.Ytjnjmnfacaakfaa
namespace Go.Proofs.Ytjnjmnfacaakfaa
open Go.Eng
theorem firstNone_ok (l : Lang) (most : Int) (hbad : (check l ≠ 0) ∨ (most < 1)) : Pure Try.prog 14 [eLang l, .v (.int .i64 most)] (.p ((eL eS 1 []) ([] : List (List UInt8)))) := by
 refine pure_of (fn := Try.f14) Try.func14 rfl rfl fun F_ W0_ => ?_
 refine tr_seq (q_t [2, 3] [.ref 0 [], .ref 1 []] [.box (.p (eLang l)), .box (vint .i64 most)] (tr_then (tr_seq (tr_seq (q_k [Pure Try.prog 20 [eLang l] (vint .i64 (check l)), (!((check l) != 0)) = true → (!((check l) != 0)) = true, (!((check l) != 0)) = true → (!((check l) != 0)) = true] [2, 3, 13] [.ref 0 [], .ref 1 [], vbool (((check l) != 0) || (decide (most < 1)))] [] [(1, vint .i64 (check l))] (al (check_ok _) (al id (al id (trivial)))) (tr_then (q_c (((check l) != 0) || (decide (most < 1))) (((check l) ≠ 0) ∨ (most < 1)) (fun hc1 => ?_) (fun hc1 => (absurd (hbad) hc1)))))))))
 ·refine tr_seq (q_m [4] [.p (.v (.slice none 0 0))] (tr_then (tr_pre (E' := [(4, none, .p (.v (.slice none 0 0)))]) (H' := []) (fun _ _ h => q_w [] [4] h) (q_i (d := .p (.v (.slice none 0 0))) 4 (.p ((eL eS 1 []) ([] : List (List UInt8)))) ?_ ?_))))
  ·refine imp_nil ([] : List (List UInt8)) ?_
   first | rfl | (simp; done) | omega | (simp_all; done) | grind
  exact q_z [.p ((eL eS 1 []) ([] : List (List UInt8)))] (fun _ _ h => h)
def firstS (l : Lang) (most : Int) : List (List UInt8) := if (check l ≠ 0) ∨ (most < 1) then [] else (allW l).take (min most 100).toNat
theorem First_ok (l : Lang) (most : Int) : Pure Try.prog 14 [eLang l, .v (.int .i64 most)] (.p (eL eS 1 [] (firstS l most))) := by
 unfold firstS
 by_cases h : (check l ≠ 0) ∨ (most < 1)
 ·rw [if_pos h]; exact firstNone_ok l most h
 ·rw [if_neg h]
  rw [not_or, Classical.not_not] at h
  intro F w vs hs hlen hrel
  match vs, hlen with
  | [a, b], _ =>
   have h1 := hrel 0 _ a rfl rfl
   have h2 := hrel 1 _ b rfl rfl
   obtain rfl := asInt_val (k := .i64) (n := most) rfl h2
   cases h1 with
   | one hm => cases hm
   | @many _ cs _ h1 =>
    cases h1 with
    | p h1 =>
     have hl := h1.length
     match cs, hl, h1 with
     | [sa, sn], _, h1 =>
      exact (First_go l h.1 most (by omega) F w hs sa sn h1).mono fun e w' ⟨v, F', a, b, c, d, e⟩ => ⟨v, F', a, b, c, d, e⟩
end Go.Proofs.Ytjnjmnfacaakfaa
namespace Go.Proofs.Ytjnjmnfacaakfaa
open Go.Eng
end Go.Proofs.Ytjnjmnfacaakfaa
namespace Go.Proofs.Ytjnjmnfacaakfaa
open Go.Eng
end Go.Proofs.Ytjnjmnfacaakfaa
