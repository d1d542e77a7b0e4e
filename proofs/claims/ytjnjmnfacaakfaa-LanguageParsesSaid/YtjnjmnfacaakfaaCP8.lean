/-
  LanguageParses: whatever the input, the call returns true, and each argument reads afterwards as it read before. (Part 8 of 9 of its proof.)
-/
import Derived.Test.YtjnjmnfacaakfaaCP7
import Derived.Test.YtjnjmnfacaakfaaRows
namespace Go.Proofs.Ytjnjmnfacaakfaa
open Go.Eng
abbrev Mp := Nat → Option Bool
end Go.Proofs.Ytjnjmnfacaakfaa
namespace Go.Proofs.Ytjnjmnfacaakfaa
open Go.Eng
/-! ### A piece's set is not empty -/
/-- A set that leads on. -/
def Good (ps : List Place) (m : Nat) : Prop := ∃ S, Bits (closedS ps S) m ∧ ∃ i, i < ps.length ∧ S i = true
/-! ### Spreading -/
section
variable {l : Lang} {x : Mp × Mp} {k c i : Nat}
end
section
variable {l : Lang}
end
end Go.Proofs.Ytjnjmnfacaakfaa
namespace Go.Proofs.Ytjnjmnfacaakfaa
open Go.Eng
theorem brR_len {s : List UInt8} : ∀ {n p : Nat} {cur : List Piece} {out y : List (List Piece)}, p ≤ s.length → brR n s p cur out = some y → y.length ≤ out.length + (s.length - p) + 1
  | 0, _, _, _, _, _, h => by cases h
  | n + 1, p, cur, out, y, hp, h => by
    unfold brR at h
    split at h
    · rename_i hlt
      split at h
      · split at h
        · cases h
        · have := brR_len (by omega) h
          simp only [List.length_append, List.length_cons, List.length_nil] at this
          omega
      · split at h
        · cases h
        · rename_i hs
          have h1 := setR_le (s := s) (p := p) (by omega) (eq_true_of_ne_false hs)
          have h2 := nxR_le h1.2
          have := brR_len h2.2 h
          omega
    · split at h
      · cases h
      · cases h
        simp
theorem brOf_len (s : List UInt8) : (brOf (branchesR s)).length ≤ s.length + 1 := by
  cases h : branchesR s with
  | none => simp [brOf]
  | some y =>
    have := brR_len (Nat.zero_le _) h
    simpa [brOf] using this
end Go.Proofs.Ytjnjmnfacaakfaa
namespace Go.Eng
open Go.RowKit
section
variable {C : Cx} {E E1 E2 E3 : Env} {H : List O} {Q : Exit → Act → World → Prop}
theorem tr_open {c : Code} (h : ∀ a w F γ, SLH C F γ H w → SLE F γ E a → a.tmps.size = C.N → a.defers = [] → c.wp C.P Q a w) : Tr C c E H Q := fun a w hS =>
  let ⟨⟨F, γ, h1, h2⟩, h3, h4⟩ := hS
  h a w F γ h1 h2 h3 h4
/-- The slots that a call reads, the object i as data at rest. -/
def lentE (i : Nat) (p : PV) (E : Env) : List Nat → Option Env
  | [] => some []
  | t :: l => match E.get t, lentE i p E l with
    | some (none, .own j), some r => if j = i then some ((t, none, .p p) :: r) else none
    | some (none, .p x), some r => some ((t, none, .p x) :: r)
    | _, _ => none
theorem lentE_get {i : Nat} {p : PV} : ∀ {l : List Nat} {E E' : Env} {t : Nat} {g d}, lentE i p E l = some E' → E'.get t = some (g, d) → g = none ∧ ((E.get t = some (none, .own i) ∧ d = .p p) ∨ ∃ x, E.get t = some (none, .p x) ∧ d = .p x)
  | [], E, E', t, g, d, h, hg => by
    simp only [lentE, Option.some.injEq] at h
    subst h; cases hg
  | u :: l, E, E', t, g, d, h, hg => by
    simp only [lentE] at h
    split at h
    · rename_i j r h1 h2
      split at h
      · rename_i hj
        subst hj
        simp only [Option.some.injEq] at h
        subst h
        simp only [Env.get] at hg
        cases hb : Nat.beq u t with
        | true =>
          rw [hb] at hg
          simp only [cond_true, Option.some.injEq, Prod.mk.injEq] at hg
          obtain ⟨rfl, rfl⟩ := hg
          rw [← Nat.eq_of_beq_eq_true hb]
          exact ⟨rfl, .inl ⟨h1, rfl⟩⟩
        | false => rw [hb] at hg; exact lentE_get h2 hg
      · cases h
    · rename_i x r h1 h2
      simp only [Option.some.injEq] at h
      subst h
      simp only [Env.get] at hg
      cases hb : Nat.beq u t with
      | true =>
        rw [hb] at hg
        simp only [cond_true, Option.some.injEq, Prod.mk.injEq] at hg
        obtain ⟨rfl, rfl⟩ := hg
        rw [← Nat.eq_of_beq_eq_true hb]
        exact ⟨rfl, .inr ⟨x, h1, rfl⟩⟩
      | false => rw [hb] at hg; exact lentE_get h2 hg
    · cases h
/-- A call that is lent a slice of one's own, and hands back a number, a bool or a string. -/
theorem tr_lent {l : List Oper} {id : Nat} {vc1 El ps} {o : Oper} {f : FuncId} {args : Array Operand} {ts : Array TypeId} {t : Nat} {res : D} {T sz n : Nat} {fo : Nat → D} (i : Nat) (pj : Nat → PV) (n1 : Nat) (us vs ks : List Nat)
    (hi : H[i]? = some (.arr T sz n fo)) (hfo : ∀ j, j < n → fo j = .p (pj j)) (hl : lentE i (.lst sz n pj) E us = some El)
    (h1 : (runQ C.P C.N l.toArray [] [] 0 (l.take n1) El).map (fun q => (q.1, q.2)) = some (vc1, E1)) (hvc1 : all vc1) (hn : l[n1]? = some o) (ho : o.op = .call ⟨.value (.func f), args, ts⟩) (hgd : o.guard = none) (hd : o.dst = some t) (hdk : dstOk C.N (some t) = true) (hf : callable C.P f = true)
    (hps : argPs E1 args.toList = some ps) (hpure : Pure C.P f ps res) (hsc : scalD res = true)
    (hsuf : ((runQ C.P C.N l.toArray [] [] (n1 + 1) (l.drop (n1 + 1)) [(t, none, res)]).bind fun q => (proj q.2 vs).map fun x => (q.1, x)) = some ([], E2)) (hsc2 : scalE E2 = true)
    (hkp : keepsB l ks = true) (hp : proj E ks = some E3) (hk : ∀ a w, SL C (E2 ++ E3) H a w → Q .normal a w) : Tr C (.region id l.toArray false) E H Q := by
  refine tr_open fun a w F γ hH hE hN hD => wp_region_lit ?_
  cases hr1 : runQ C.P C.N l.toArray [] [] 0 (l.take n1) El with
  | none => rw [hr1] at h1; cases h1
  | some q1 =>
  obtain ⟨va, Ea⟩ := q1
  rw [hr1] at h1
  simp only [Option.map_some, Option.some.injEq, Prod.mk.injEq] at h1
  obtain ⟨rfl, rfl⟩ := h1
  cases hq : runQ C.P C.N l.toArray [] [] (n1 + 1) (l.drop (n1 + 1)) [(t, none, res)] with
  | none => rw [hq] at hsuf; cases hsuf
  | some q =>
  obtain ⟨vq, Eq⟩ := q
  rw [hq] at hsuf
  simp only [Option.bind_some, Option.map_eq_some_iff, Prod.mk.injEq] at hsuf
  obtain ⟨Ex, hpx, rfl, rfl⟩ := hsuf
  have hkp2 : keepsB (l.take n1) ks = true ∧ keepsB (l.drop n1) ks = true := by
    have : keepsB (l.take n1 ++ l.drop n1) ks = true := by rw [List.take_append_drop]; exact hkp
    unfold keepsB at this ⊢
    rw [List.all_append, Bool.and_eq_true] at this
    exact this
  have hdr : l.drop n1 = o :: l.drop (n1 + 1) := by
    obtain ⟨hlt, hget⟩ := List.getElem?_eq_some_iff.1 hn
    rw [List.drop_eq_getElem_cons hlt, hget]
  -- the object at rest
  obtain ⟨F1, hF1, hs1, hobj⟩ : ∃ F1 : PHeap, (∀ b c, F b = some c → F1 b = some c) ∧ Sub F1 w ∧ ∀ x, γ i = some x → RelP F1 (.lst sz n pj) [x] := by
    cases hγ : γ i with
    | none => exact ⟨F, fun _ _ h => h, hH.sub, fun x h => by cases h⟩
    | some x =>
      have hge : ∀ b c, F b = some c → addO F x w b = some c := fun b c hb => by
        unfold addO
        rw [if_neg]
        · exact hb
        · intro h
          rw [(hH.apart i _ x b hi rfl hγ h).1] at hb
          cases hb
      refine ⟨addO F x w, hge, fun b c hb => ?_, fun y hy => ?_⟩
      · unfold addO at hb
        split at hb
        · split at hb
          · rename_i c' T' z hc
            cases hb
            exact ⟨T', z, hc⟩
          · cases hb
        · exact hH.sub b c hb
      · cases hy
        have h := hH.obj i _ x hi hγ
        cases h with
        | arr0 => exact .lst0
        | @arr _ _ _ _ b cap c a1 a2 a3 a4 a5 =>
          refine .lst (c := c) (by unfold addO; rw [if_pos (by rfl), a1]) a2 (by rw [a4, Nat.zero_add]; exact Nat.mul_le_mul_right _ a2) fun j hj => ?_
          have := a5 j hj
          rw [hfo j hj] at this
          rw [Nat.zero_add]
          cases this with
          | p this => exact this.mono hge
  have hEl : SLE F1 noG El a := by
    intro u g d hg
    obtain ⟨rfl, hh⟩ := lentE_get hl hg
    refine ⟨fun _ => ?_, fun hn => absurd trivial hn⟩
    rcases hh with ⟨h1, rfl⟩ | ⟨x, h1, rfl⟩
    · obtain ⟨v, v1, v2⟩ := (hE _ _ _ h1).1 trivial
      refine ⟨v, v1, ?_⟩
      cases v2 with
      | many hm => cases hm
      | one _ v2 => cases v2 with | own h _ => exact .one rfl (.p (hobj v h))
    · obtain ⟨v, v1, v2⟩ := (hE _ _ _ h1).1 trivial
      refine ⟨v, v1, ?_⟩
      cases v2 with
      | one hm v2 => cases v2 with | p v2 => exact .one hm (.p (v2.mono hF1))
      | many hm v2 => cases v2 with | p v2 => exact .many hm (.p (v2.mono hF1))
  have key : wpList C.P l.toArray Q (l.take n1 ++ l.drop n1) a w := by
    refine runQ_keep (P := C.P) (ks := ks) (qs_slh (P := C.P) (N := C.N) hs1) hEl hN hr1 hvc1 hkp2.1 fun a1 k1 k2 k3 k4 => ?_
    rw [hdr]
    have hw : Region.wanted o (yielded l.toArray a1.tmps) = true := by simp [Region.wanted, hgd]
    unfold wpList
    rw [if_pos hw]
    refine .inl ?_
    unfold Oper.wp
    rw [resolve_call ho rfl hf w]
    obtain ⟨hpl, hpr⟩ := argPs_spec k1 hps
    have hc := hpure F1 w (args.toList.map a1.eval) hs1 (by simp [hpl]) hpr
    rw [show (args.toList.map a1.eval).toArray = args.map a1.eval from by simp [← Array.toList_map]] at hc
    refine hc.mono ?_
    rintro e w' ⟨v, F', rfl, hs', hF', hg', hv⟩
    show wpList C.P l.toArray Q (l.drop (n1 + 1)) (a1.put o.dst v) w'
    have hkp3 := hkp2.2
    rw [hdr] at hkp3
    obtain ⟨hkp4, hput⟩ := keeps_put hkp3
    have hsF : Sub F w' := fun b c hb => by
      obtain ⟨T', fz, h⟩ := hH.sub b c hb
      exact ⟨T', fz, by rw [hg'.block b (Array.getElem?_eq_some_iff.1 h).1]; exact h⟩
    have hH' : SLH C F γ H w' := hH.grew hg' (fun _ _ => rfl) hsF
    have hEA : SLE F noG [(t, none, res)] (a1.put o.dst v) := by
      rw [hd]
      exact sle_put (dst := some t) (e := none) (E := []) (fun _ _ _ h => by cases h) k2 hdk (fun _ => scal_rel hsc hv) (fun h => absurd trivial h)
    have := runQ_keep (P := C.P) (ks := ks) (rest := []) (Q := Q) (qs_slh (P := C.P) (N := C.N) hsF) hEA (by rw [put_size]; exact k2) hq trivial hkp4 fun a3 j1 j2 j3 j4 => (show Q .normal a3 w' from
      hk a3 w' ⟨⟨F, γ, hH', sle_app (scalE_sle hsc2 (sle_proj hpx j1)) (sle_kept hp (fun t ht => (j4 t ht).trans ((hput a1 v t ht).trans (k4 t ht))) hE)⟩, j2, (j3.trans put_defers).trans (k3.trans hD)⟩)
    rw [List.append_nil] at this
    exact this
  rw [List.take_append_drop] at key
  exact key
end
end Go.Eng
namespace Go.Proofs.Ytjnjmnfacaakfaa
open Go.Eng
def X0 : Nat → Nat → Bool := fun _ _ => false
def stX (k : Nat) : Nat → Nat → Bool := fun j => if j < k then upd (fun _ => false) 0 true else fun _ => false
def startX (b : List (List Piece)) : Nat → Nat → Bool := closedX b (stX b.length)
def accX (b : List (List Piece)) (X : Nat → Nat → Bool) : Nat → Bool
  | 0 => false
  | q + 1 => accX b X q || X q (b.getD q []).length
def autR (b : List (List Piece)) : Aut (Nat → Nat → Bool) := { step := fun X c => stepX b X c, none := fun X => decide (noneP (GL b.length (lenB b) X)), acc := fun X => accX b X b.length, same := fun X Y => decide (sameP (GL b.length (lenB b) X) (GL b.length (lenB b) Y)) }
def refLang (s : List UInt8) : Lang × Int := if 64 < s.length then (dLang, 2) else if (branchesR s).isSome = false then (dLang, 5) else
  match bfsG (autR (brOf (branchesR s))) 17 [startX (brOf (branchesR s))] 0 [] [] with
  | some l => (l, 0)
  | none => (dLang, 2)
theorem refLang_1 {s : List UInt8} (h : 64 < s.length) : refLang s = (dLang, 2) := by rw [refLang, if_pos h]
theorem refLang_2 {s : List UInt8} (h : ¬ 64 < s.length) (h1 : (branchesR s).isSome = false) : refLang s = (dLang, 5) := by rw [refLang, if_neg h, if_pos h1]
theorem refLang_3 {s : List UInt8} (h : ¬ 64 < s.length) (h1 : ¬ (branchesR s).isSome = false) (h2 : bfsG (autR (brOf (branchesR s))) 17 [startX (brOf (branchesR s))] 0 [] [] = none) : refLang s = (dLang, 2) := by rw [refLang, if_neg h, if_neg h1, h2]
theorem refLang_4 {s : List UInt8} {l : Lang} (h : ¬ 64 < s.length) (h1 : ¬ (branchesR s).isSome = false) (h2 : bfsG (autR (brOf (branchesR s))) 17 [startX (brOf (branchesR s))] 0 [] [] = some l) : refLang s = (l, 0) := by rw [refLang, if_neg h, if_neg h1, h2]
section
variable {σ : Type} {A : Aut σ} {x : σ} {L : List σ}
theorem rowG_pre : ∀ c, ∃ z, (rowG A x L c).1 = L ++ z ∧ z.length ≤ c
  | 0 => ⟨[], by simp [rowG], Nat.le_refl _⟩
  | c + 1 => by
    obtain ⟨z, h1, h2⟩ := rowG_pre c
    unfold rowG
    split
    · exact ⟨z, h1, by omega⟩
    · split
      · exact ⟨z, h1, by omega⟩
      · exact ⟨z ++ [A.step x c], by simp [h1], by simp; omega⟩
theorem rowG_len2 : ∀ c, (rowG A x L c).2.length = c
  | 0 => rfl
  | c + 1 => by
    have := rowG_len2 c
    unfold rowG
    split
    · simp [this]
    · split <;> simp [this]
theorem rowG_get {k : Nat} (d : σ) (h : k < L.length) (c : Nat) : L.length ≤ (rowG A x L c).1.length ∧ (rowG A x L c).1.length ≤ L.length + c ∧ (rowG A x L c).1.getD k d = L.getD k d := by
  obtain ⟨z, h1, h2⟩ := rowG_pre (A := A) (x := x) (L := L) c
  rw [h1]
  refine ⟨by simp, by simp; omega, ?_⟩
  rw [List.getD_eq_getElem?_getD, List.getD_eq_getElem?_getD, List.getElem?_append_left h]
theorem rowG_n {c : Nat} (h : A.none (A.step x c) = true) : rowG A x L (c + 1) = ((rowG A x L c).1, (rowG A x L c).2 ++ [-1]) := by rw [rowG, if_pos h]
theorem rowG_i {c i : Nat} (h : ¬ A.none (A.step x c) = true) (h1 : idxG A (A.step x c) (rowG A x L c).1 0 = some i) : rowG A x L (c + 1) = ((rowG A x L c).1, (rowG A x L c).2 ++ [(i : Int)]) := by rw [rowG, if_neg h, h1]
theorem rowG_a {c : Nat} (h : ¬ A.none (A.step x c) = true) (h1 : idxG A (A.step x c) (rowG A x L c).1 0 = .none) : rowG A x L (c + 1) = ((rowG A x L c).1 ++ [A.step x c], (rowG A x L c).2 ++ [((rowG A x L c).1.length : Int)]) := by rw [rowG, if_neg h, h1]
theorem bfsG_step {n k : Nat} {B : List Bool} {N : List (List Int)} (d : σ) (hn : 0 < n) (h : k < L.length) (h1 : ¬ 16 < (rowG A (L.getD k d) L 37).1.length) : bfsG A n L k B N = bfsG A (n - 1) (rowG A (L.getD k d) L 37).1 (k + 1) (B ++ [A.acc (L.getD k d)]) (N ++ [(rowG A (L.getD k d) L 37).2]) := by
  obtain ⟨n, rfl⟩ : ∃ j, n = j + 1 := ⟨n - 1, by omega⟩
  have e : L[k]? = some (L.getD k d) := by rw [List.getD_eq_getElem?_getD, List.getElem?_eq_getElem h]; rfl
  rw [bfsG, e]
  simp only
  rw [if_neg h1]; rfl
theorem bfsG_many {n k : Nat} {B : List Bool} {N : List (List Int)} (d : σ) (hn : 0 < n) (h : k < L.length) (h1 : 16 < (rowG A (L.getD k d) L 37).1.length) : bfsG A n L k B N = .none := by
  obtain ⟨n, rfl⟩ : ∃ j, n = j + 1 := ⟨n - 1, by omega⟩
  have e : L[k]? = some (L.getD k d) := by rw [List.getD_eq_getElem?_getD, List.getElem?_eq_getElem h]; rfl
  rw [bfsG, e]
  simp only
  rw [if_pos h1]
theorem bfsG_end {n k : Nat} {B : List Bool} {N : List (List Int)} (hn : 0 < n) (h : ¬ k < L.length) : bfsG A n L k B N = some { Accept := B, Next := N } := by
  obtain ⟨n, rfl⟩ : ∃ j, n = j + 1 := ⟨n - 1, by omega⟩
  rw [bfsG, List.getElem?_eq_none (by omega)]
end
section
variable {b : List (List Piece)}
theorem getD_GLM {L : List (Nat → Nat → Bool)} {k : Nat} (h : k < L.length) : (L.map (GL b.length (lenB b))).getD k [] = GL b.length (lenB b) (L.getD k X0) := by
  rw [List.getD_eq_getElem?_getD, List.getD_eq_getElem?_getD, List.getElem?_map, List.getElem?_eq_getElem h]; rfl
theorem findL_idx (X : Nat → Nat → Bool) : ∀ (L : List (Nat → Nat → Bool)) (i : Nat), findL (GL b.length (lenB b) X) (L.map (GL b.length (lenB b))) (i : Int) = match idxG (autR b) X L i with
    | some j => (j : Int)
    | .none => -1
  | [], _ => rfl
  | Y :: L, i => by
    rw [List.map_cons, findL, idxG]
    have e : (autR b).same Y X = decide (sameP (GL b.length (lenB b) Y) (GL b.length (lenB b) X)) := rfl
    rw [e]
    by_cases h : sameP (GL b.length (lenB b) Y) (GL b.length (lenB b) X)
    · rw [if_pos h, if_pos (decide_eq_true h)]
    · rw [if_neg h, if_neg (by simpa using h)]
      exact findL_idx X L (i + 1)
theorem idx_of_find {X : Nat → Nat → Bool} {L : List (Nat → Nat → Bool)} (h : ¬ findL (GL b.length (lenB b) X) (L.map (GL b.length (lenB b))) 0 < 0) : ∃ i : Nat, idxG (autR b) X L 0 = some i ∧ findL (GL b.length (lenB b) X) (L.map (GL b.length (lenB b))) 0 = (i : Int) := by
  have e := findL_idx (b := b) X L 0
  rw [show ((0 : Nat) : Int) = 0 from rfl] at e
  cases hi : idxG (autR b) X L 0 with
  | none => rw [hi] at e; rw [e] at h; exact absurd (by decide) h
  | some i => rw [hi] at e; exact ⟨i, rfl, e⟩
theorem idx_no_find {X : Nat → Nat → Bool} {L : List (Nat → Nat → Bool)} (h : findL (GL b.length (lenB b) X) (L.map (GL b.length (lenB b))) 0 < 0) : idxG (autR b) X L 0 = .none := by
  have e := findL_idx (b := b) X L 0
  rw [show ((0 : Nat) : Int) = 0 from rfl] at e
  cases hi : idxG (autR b) X L 0 with
  | none => rfl
  | some i => rw [hi] at e; rw [e] at h; simp at h; omega
theorem GL_shape (X Y : Nat → Nat → Bool) : Shape (GL b.length (lenB b) X) (GL b.length (lenB b) Y) := by
  refine ⟨by rw [GL_len, GL_len], fun j => ?_⟩
  by_cases h : j < b.length
  · rw [GL_rlen h, GL_rlen h]
  · rw [List.getD_eq_getElem?_getD, List.getD_eq_getElem?_getD, List.getElem?_eq_none (by rw [GL_len]; omega), List.getElem?_eq_none (by rw [GL_len]; omega)]
theorem GL_small (X : Nat → Nat → Bool) (hm : ∀ k, (b.getD k []).length < 1000) (j : Nat) : ((GL b.length (lenB b) X).getD j []).length ≤ 1000 := by
  by_cases h : j < b.length
  · rw [GL_rlen h]; have := hm j; unfold lenB; omega
  · rw [List.getD_eq_getElem?_getD, List.getElem?_eq_none (by rw [GL_len]; omega)]; simp
def atR (b : List (List Piece)) (x : Nat → Nat → Bool) (L : List (Nat → Nat → Bool)) (c : Nat) : Int := match idxG (autR b) (stepX b x c) (rowG (autR b) x L c).1 0 with
  | some i => (i : Int)
  | .none => ((rowG (autR b) x L c).1.length : Int)
theorem rowR_n {x : Nat → Nat → Bool} {L : List (Nat → Nat → Bool)} {c : Nat} (h : decide (noneP (GL b.length (lenB b) (stepX b x c))) = true) : (rowG (autR b) x L c).1 = (rowG (autR b) x L (c + 1)).1 ∧ (rowG (autR b) x L c).2 ++ [-1] = (rowG (autR b) x L (c + 1)).2 := by
  rw [rowG_n (A := autR b) h]; exact ⟨rfl, rfl⟩
theorem rowR_at {x : Nat → Nat → Bool} {L : List (Nat → Nat → Bool)} {c : Nat} (h : decide (noneP (GL b.length (lenB b) (stepX b x c))) = false) : (rowG (autR b) x L c).2 ++ [atR b x L c] = (rowG (autR b) x L (c + 1)).2 := by
  have h' : ¬ (autR b).none ((autR b).step x c) = true := by
    intro h2
    have h2 : decide (noneP (GL b.length (lenB b) (stepX b x c))) = true := h2
    rw [h] at h2; cases h2
  unfold atR
  have e : (autR b).step x c = stepX b x c := rfl
  cases hi : idxG (autR b) (stepX b x c) (rowG (autR b) x L c).1 0 with
  | none => rw [rowG_a h' (by rw [e]; exact hi)]
  | some i => rw [rowG_i h' (by rw [e]; exact hi)]
theorem rowR_i {x : Nat → Nat → Bool} {L : List (Nat → Nat → Bool)} {c : Nat} (h : decide (noneP (GL b.length (lenB b) (stepX b x c))) = false) (h1 : ¬ findL (GL b.length (lenB b) (stepX b x c)) ((rowG (autR b) x L c).1.map (GL b.length (lenB b))) 0 < 0) :
    (rowG (autR b) x L (c + 1)).1 = (rowG (autR b) x L c).1 ∧ atR b x L c = findL (GL b.length (lenB b) (stepX b x c)) ((rowG (autR b) x L c).1.map (GL b.length (lenB b))) 0 := by
  obtain ⟨i, h2, h3⟩ := idx_of_find h1
  have h' : ¬ (autR b).none ((autR b).step x c) = true := by
    intro h2
    have h2 : decide (noneP (GL b.length (lenB b) (stepX b x c))) = true := h2
    rw [h] at h2; cases h2
  rw [rowG_i h' h2, h3]
  unfold atR
  rw [h2]
  exact ⟨rfl, rfl⟩
theorem rowR_a {x : Nat → Nat → Bool} {L : List (Nat → Nat → Bool)} {c : Nat} (h : decide (noneP (GL b.length (lenB b) (stepX b x c))) = false) (h1 : findL (GL b.length (lenB b) (stepX b x c)) ((rowG (autR b) x L c).1.map (GL b.length (lenB b))) 0 < 0) :
    (rowG (autR b) x L (c + 1)).1 = (rowG (autR b) x L c).1 ++ [stepX b x c] ∧ atR b x L c = ((rowG (autR b) x L c).1.length : Int) := by
  have h2 := idx_no_find h1
  have h' : ¬ (autR b).none ((autR b).step x c) = true := by
    intro h2
    have h2 : decide (noneP (GL b.length (lenB b) (stepX b x c))) = true := h2
    rw [h] at h2; cases h2
  rw [rowG_a h' h2]
  unfold atR
  rw [h2]
  exact ⟨rfl, rfl⟩
theorem stX_set {k : Nat} : upd (stX k) k (upd (stX k k) 0 true) = stX (k + 1) := by
  refine upd_row (fun j hj => ?_) ?_
  · unfold stX
    by_cases h : j < k
    · rw [if_pos h, if_pos (by omega)]
    · rw [if_neg h, if_neg (by omega)]
  · unfold stX
    rw [if_neg (Nat.lt_irrefl k), if_pos (Nat.lt_succ_self k)]
theorem stX_0 : stX 0 = fun _ _ => false := by
  funext j
  unfold stX
  rw [if_neg (by omega)]
end
theorem brR_rows {s : List UInt8} : ∀ {n p : Nat} {cur : List Piece} {out y : List (List Piece)}, p ≤ s.length → brR n s p cur out = some y → cur.length ≤ 2 * p → (∀ r ∈ out, r.length ≤ 2 * s.length) → ∀ r ∈ y, r.length ≤ 2 * s.length
  | 0, _, _, _, _, _, h, _, _ => by cases h
  | n + 1, p, cur, out, y, hp, h, hc, ho => by
    have hx : ∀ r ∈ out ++ [cur], r.length ≤ 2 * s.length := fun r hr => by
      simp only [List.mem_append, List.mem_singleton] at hr
      rcases hr with hr | rfl
      · exact ho r hr
      · omega
    unfold brR at h
    split at h
    · rename_i hlt
      split at h
      · split at h
        · cases h
        · exact brR_rows (by omega) h (by simp) hx
      · split at h
        · cases h
        · rename_i hs
          have h1 := setR_le (s := s) (p := p) (by omega) (eq_true_of_ne_false hs)
          have h2 := nxR_le h1.2
          have h3 := addR_len (cur := cur) (x := (setR s p).1) (m := moR s (setR s p).2.1)
          have h4 : addR cur (setR s p).1 (moR s (setR s p).2.1) = cur ∨ nxR s (setR s p).2.1 = (setR s p).2.1 + 1 := by
            unfold addR
            split
            · right
              rename_i hm
              unfold moR at hm
              split at hm
              · rename_i hh; unfold nxR; rw [if_pos hh]
              · omega
            · exact .inl rfl
          refine brR_rows h2.2 h ?_ ho
          rw [List.length_append]
          rcases h4 with h4 | h4
          · rw [h4]; simp; omega
          · simp; omega
    · split at h
      · cases h
      · cases h; exact hx
theorem brOf_rows (s : List UInt8) (k : Nat) : ((brOf (branchesR s)).getD k []).length ≤ 2 * s.length := by
  have hall : ∀ r ∈ brOf (branchesR s), r.length ≤ 2 * s.length := by
    cases h : branchesR s with
    | none => intro r hr; simp [brOf] at hr
    | some y => exact brR_rows (Nat.zero_le _) h (by simp) (by simp)
  by_cases hk : k < (brOf (branchesR s)).length
  · rw [List.getD_eq_getElem?_getD, List.getElem?_eq_getElem hk, Option.getD_some]
    exact hall _ (List.getElem_mem _)
  · rw [List.getD_eq_getElem?_getD, List.getElem?_eq_none (by omega)]; simp
theorem relV_nog {F : PHeap} {γ : Gm} {x : PV} {v : Value} (h : RelV F γ (.p x) v) : RelV F noG (.p x) v := by
  cases h with
  | one h1 h2 => cases h2 with | p h2 => exact .one h1 (.p h2)
  | many h1 h2 => cases h2 with | p h2 => exact .many h1 (.p h2)
theorem sle_nil {F : PHeap} {γ : Gm} {a : Act} : SLE F γ [] a := fun _ _ _ h => by cases h
theorem relV_ref {F : PHeap} {γ : Gm} {i : Nat} {p : List Step} {v : Value} (h : RelV F γ (.ref i p) v) : v.oneCell' = true := by
  cases h with
  | many hm => cases hm
  | one _ h => cases h; rfl
end Go.Proofs.Ytjnjmnfacaakfaa
namespace Go.Proofs.Ytjnjmnfacaakfaa
open Go.Eng
theorem refParseB_ok (s : List UInt8) (b : List (List Piece)) (hb0 : s.length < 4611686018427387904) (hbb : brOf (branchesR s) = b) : Pure Try.prog 12 [.s s] (.tup [.p (eLang ((refLang s).1)), vint .i64 ((refLang s).2)]) := by
  have hbl := brOf_len s
  have hbr := brOf_rows s
  refine pure_of (fn := Try.f12) Try.func12 rfl rfl fun F_ W0_ => ?_
  refine tr_seq ?_
  refine tr_r (vc := []) (E' := [(0, none, vstr s), (2, none, .ref 0 [])]) (H' := [.box (.p (.agg [.v (.slice none 0 0), .v (.slice none 0 0)]))]) [] [] [0, 2] (by kernel_rfl) ?_ ?_
  · exact trivial
  refine tr_then (tr_seq ?_)
  refine tr_seq ?_
  refine tr_r (vc := []) (E' := [(0, none, vstr s), (2, none, .ref 0 []), (19, none, vbool (decide (64 < ((s.length : Nat) : Int))))]) (H' := [.box (.p (.agg [.v (.slice none 0 0), .v (.slice none 0 0)]))]) [] [] [0, 2, 19] (by kernel_rfl) ?_ ?_
  · exact trivial
  refine tr_then ?_
  refine tr_condP (decide (64 < ((s.length : Nat) : Int))) (64 < ((s.length : Nat) : Int)) (by simp) (by kernel_rfl) (fun hc1 => ?_) (fun hc1 => ?_)
  · skip
    refine tr_seq ?_
    refine tr_r (vc := []) (E' := [(2, none, .ref 0 []), (3, none, vint .i64 2)]) (H' := [.box (.p (.agg [.v (.slice none 0 0), .v (.slice none 0 0)]))]) [] [] [2, 3] (by kernel_rfl) ?_ ?_
    · exact trivial
    refine tr_then ?_
    refine tr_pre (E' := [(2, none, .ref 0 []), (3, none, vint .i64 2)]) (H' := [.box (.p (.agg [.v (.slice none 0 0), .v (.slice none 0 0)]))]) (fun A_ W_ hS => sl_weak (vc := []) [0] [2, 3] (by kernel_rfl) trivial hS) ?_
    refine tr_pre (E' := [(2, none, .ref 0 []), (3, none, vint .i64 2)]) (H' := [.box (.p (eLang ((refLang s).1)))]) (fun A_ W_ hS => sl_obj_imp (d := .p (.agg [.v (.slice none 0 0), .v (.slice none 0 0)])) 0 (.p (eLang ((refLang s).1))) (by kernel_rfl) ?_ hS) ?_
    · refine err_lang ?_
      first | (rw [refLang_1 (by omega)]; done) | (rw [refLang_2 (by omega) hc2]; done) | (obtain rfl : c = 37 := (by omega); rw [refLang_3 (by omega) hc2 (by rw [hbb, ← hi1_0]; exact bfsG_many X0 (by omega) (by omega) (by omega))]; done) | (rw [refLang_4 (by omega) hc2 (by rw [hbb, ← hi1_0]; exact bfsG_end (by omega) (by omega))]; done)
    refine tr_pre (E' := (3, none, vint .i64 ((refLang s).2)) :: [(2, none, .ref 0 []), (3, none, vint .i64 2)]) (H' := [.box (.p (eLang ((refLang s).1)))]) (fun A_ W_ hS => sl_set_imp (d := vint .i64 2) 3 (vint .i64 ((refLang s).2)) (by kernel_rfl) ?_ hS) ?_
    · refine imp_eq (congrArg (fun x => D.p (eI x)) (a₁ := 2) (a₂ := ((refLang s).2)) ?_)
      first | (rw [refLang_1 (by omega)]; done) | (rw [refLang_2 (by omega) hc2]; done) | (obtain rfl : c = 37 := (by omega); rw [refLang_3 (by omega) hc2 (by rw [hbb, ← hi1_0]; exact bfsG_many X0 (by omega) (by omega) (by omega))]; done) | (rw [refLang_4 (by omega) hc2 (by rw [hbb, ← hi1_0]; exact bfsG_end (by omega) (by omega))]; done)
    refine tr_pre (E' := [(2, none, .ref 0 []), (3, none, vint .i64 ((refLang s).2))]) (H' := [.box (.p (eLang ((refLang s).1)))]) (fun A_ W_ hS => sl_proj (ts := [2, 3]) (by kernel_rfl) hS) ?_
    exact tr_return' (vc := []) (ds := [.p (eLang ((refLang s).1)), vint .i64 ((refLang s).2)]) (by kernel_rfl) trivial (by kernel_rfl) (fun _ _ h => h)
  · skip
    refine tr_skip ?_
    refine tr_then (tr_seq ?_)
    refine tr_r (vc := [Pure Try.prog 27 [.s s] (.tup [.p ((eL (eL ePiece 38 dPiece) 1 []) (brOf (branchesR s))), vbool ((branchesR s).isSome)]), (brOf (branchesR s)).length = b.length ∧ ∀ j_, j_ < (brOf (branchesR s)).length → (eL ePiece 38 dPiece) ((brOf (branchesR s)).getD j_ []) = (eL ePiece 38 dPiece) (b.getD j_ [])]) (E' := [(2, none, .ref 0 []), (4, none, .p ((eL (eL ePiece 38 dPiece) 1 []) b)), (5, none, vbool ((branchesR s).isSome))]) (H' := [.box (.p (.agg [.v (.slice none 0 0), .v (.slice none 0 0)]))]) [(3, .p ((eL (eL ePiece 38 dPiece) 1 []) b))] [(1, .tup [.p ((eL (eL ePiece 38 dPiece) 1 []) (brOf (branchesR s))), vbool ((branchesR s).isSome)])] [2, 4, 5] (by kernel_rfl) ?_ ?_
    · refine al ?_ (al ?_ (trivial))
      · exact refBranches_ok _ (by omega)
      · (simp_all; done)
    refine tr_then (tr_seq ?_)
    refine tr_seq ?_
    refine tr_r (vc := []) (E' := [(2, none, .ref 0 []), (4, none, .p ((eL (eL ePiece 38 dPiece) 1 []) b)), (27, none, vbool (!((branchesR s).isSome)))]) (H' := [.box (.p (.agg [.v (.slice none 0 0), .v (.slice none 0 0)]))]) [] [] [2, 4, 27] (by kernel_rfl) ?_ ?_
    · exact trivial
    refine tr_then ?_
    refine tr_condP (!((branchesR s).isSome)) (((branchesR s).isSome) = false) (by simp) (by kernel_rfl) (fun hc2 => ?_) (fun hc2 => ?_)
    · skip
      refine tr_seq ?_
      refine tr_r (vc := []) (E' := [(2, none, .ref 0 []), (3, none, vint .i64 5)]) (H' := [.box (.p (.agg [.v (.slice none 0 0), .v (.slice none 0 0)]))]) [] [] [2, 3] (by kernel_rfl) ?_ ?_
      · exact trivial
      refine tr_then ?_
      refine tr_pre (E' := [(2, none, .ref 0 []), (3, none, vint .i64 5)]) (H' := [.box (.p (.agg [.v (.slice none 0 0), .v (.slice none 0 0)]))]) (fun A_ W_ hS => sl_weak (vc := []) [0] [2, 3] (by kernel_rfl) trivial hS) ?_
      refine tr_pre (E' := [(2, none, .ref 0 []), (3, none, vint .i64 5)]) (H' := [.box (.p (eLang ((refLang s).1)))]) (fun A_ W_ hS => sl_obj_imp (d := .p (.agg [.v (.slice none 0 0), .v (.slice none 0 0)])) 0 (.p (eLang ((refLang s).1))) (by kernel_rfl) ?_ hS) ?_
      · refine err_lang ?_
        first | (rw [refLang_1 (by omega)]; done) | (rw [refLang_2 (by omega) hc2]; done) | (obtain rfl : c = 37 := (by omega); rw [refLang_3 (by omega) hc2 (by rw [hbb, ← hi1_0]; exact bfsG_many X0 (by omega) (by omega) (by omega))]; done) | (rw [refLang_4 (by omega) hc2 (by rw [hbb, ← hi1_0]; exact bfsG_end (by omega) (by omega))]; done)
      refine tr_pre (E' := (3, none, vint .i64 ((refLang s).2)) :: [(2, none, .ref 0 []), (3, none, vint .i64 5)]) (H' := [.box (.p (eLang ((refLang s).1)))]) (fun A_ W_ hS => sl_set_imp (d := vint .i64 5) 3 (vint .i64 ((refLang s).2)) (by kernel_rfl) ?_ hS) ?_
      · refine imp_eq (congrArg (fun x => D.p (eI x)) (a₁ := 5) (a₂ := ((refLang s).2)) ?_)
        first | (rw [refLang_1 (by omega)]; done) | (rw [refLang_2 (by omega) hc2]; done) | (obtain rfl : c = 37 := (by omega); rw [refLang_3 (by omega) hc2 (by rw [hbb, ← hi1_0]; exact bfsG_many X0 (by omega) (by omega) (by omega))]; done) | (rw [refLang_4 (by omega) hc2 (by rw [hbb, ← hi1_0]; exact bfsG_end (by omega) (by omega))]; done)
      refine tr_pre (E' := [(2, none, .ref 0 []), (3, none, vint .i64 ((refLang s).2))]) (H' := [.box (.p (eLang ((refLang s).1)))]) (fun A_ W_ hS => sl_proj (ts := [2, 3]) (by kernel_rfl) hS) ?_
      exact tr_return' (vc := []) (ds := [.p (eLang ((refLang s).1)), vint .i64 ((refLang s).2)]) (by kernel_rfl) trivial (by kernel_rfl) (fun _ _ h => h)
    · skip
      refine tr_skip ?_
      refine tr_then (tr_seq ?_)
      have hbn : b.length < 1000 := by rw [← hbb]; omega
      have hbm : ∀ k, (b.getD k []).length < 1000 := fun k => by rw [← hbb]; have := hbr k; omega
      refine tr_open fun a0_ w0 F γ_ hH_ hE_ hN0_ hD0_ => ?_
      obtain ⟨v2_, k1_, k2_⟩ := (hE_ 2 none (.ref 0 []) (by kernel_rfl)).1 trivial
      obtain ⟨v4_, k3_, k4_⟩ := (hE_ 4 none (.p ((eL (eL ePiece 38 dPiece) 1 []) b)) (by kernel_rfl)).1 trivial
      refine (show TrQ Try.prog Try.f12.ntmps F _ [(2, none, .p (.v v2_)), (4, none, .p ((eL (eL ePiece 38 dPiece) 1 []) b))] (fun w_ => w_ = w0) _ from ?_) a0_ w0 ⟨sle_cons k1_ (.one rfl (.p (.v (relV_ref k2_)))) (sle_cons k3_ (relV_nog k4_) (fun _ _ _ h => by cases h)), hN0_, hD0_, hH_.sub, rfl⟩
      refine tq_callF (vc1 := []) (E1 := [(2, none, .p (.v v2_)), (4, none, .p ((eL (eL ePiece 38 dPiece) 1 []) b)), (29, none, .p ((eL (eL ePiece 38 dPiece) 1 []) b))]) (f := 36) (t := 30) 1 [] [2, 4, 29] (by kernel_rfl) trivial (by rfl) (by rfl) (by rfl) (by rfl) (by kernel_rfl) (fun v_ w_ => ∃ g rb, NewGrid F w0 w_ v_ 29 4 b.length g rb (lenB b) (fun _ _ => .bool false)) ?_ ?_
      · intro a_ w_ hS_
        obtain rfl : w_ = w0 := hS_.g
        obtain ⟨vb_, e1_, e2_⟩ := qs_slot (t := 29) (by kernel_rfl) hS_
        have h_ := refEmpty_ok b F w_ vb_ hS_.s e2_ hbn hbm
        rw [← eval_tmp e1_] at h_
        rw [show (#[Operand.tmp 29].map a_.eval) = #[a_.eval (.tmp 29)] from by simp]
        refine h_.mono ?_
        rintro e_ w2_ ⟨v_, g_, rb_, rfl, hN_⟩
        exact ⟨v_, rfl, g_, rb_, hN_⟩
      rintro a1_ v1_ w1 hE1_ hN1_ hD1_ ⟨g, rb, hNG⟩
      refine suffix_q (F2 := addO F v1_ w1) (E' := [(2, none, .p (.v v2_)), (4, none, .p ((eL (eL ePiece 38 dPiece) 1 []) b)), (6, none, .p (.lst 1 b.length (fun q_ => .v (g q_))))]) (G2 := fun w_ => CG (addO F v1_ w1) b g rb w1 (stX 0) w_) (d := .p (.lst 1 b.length (fun q_ => .v (g q_)))) (vc := []) [] [2, 4, 6] (by kernel_rfl) trivial (by kernel_rfl) hE1_ hN1_ hD1_ hNG.ge hNG.sub' (.one rfl (.p hNG.rest)) ⟨hNG.sub', by rw [stX_0]; exact hNG.rows', WroteAll.refl _ _ _⟩ ?_
      have hF2 : ∀ b_, b_ < w0.heap.size → addO F v1_ w1 b_ = F b_ := fun b_ hb_ => by unfold addO; rw [if_neg]; intro h_; have := (hNG.apart b_ h_).1; omega
      have hgrew := hNG.grew
      have hnew := hNG.new
      have hge_ := hNG.ge
      generalize addO F v1_ w1 = F2 at hF2 hge_ ⊢
      refine tq_then ?_
      refine tq_seq ?_
      refine tq_seq ?_
      refine tq_reg (vc := []) (E' := [(2, none, .p (.v v2_)), (4, none, .p ((eL (eL ePiece 38 dPiece) 1 []) b)), (6, none, .p (.lst 1 b.length (fun q_ => .v (g q_)))), (7, none, vint .i64 0)]) [] [2, 4, 6, 7] (by kernel_rfl) ?_ ?_
      · exact trivial
      refine tq_then ?_
      refine tq_block ?_
      refine tq_loop (α := Nat) (fun z : Nat => (fun (k : Nat) => [(2, none, .p (.v v2_)), (4, none, .p ((eL (eL ePiece 38 dPiece) 1 []) b)), (6, none, .p (.lst 1 b.length (fun q_ => .v (g q_)))), (7, none, vint .i64 ((k : Nat) : Int))]) z) (fun z : Nat => (fun (k : Nat) => (fun w_ => CG F2 b g rb w1 (stX k) w_)) z) (fun z : Nat => (fun (k : Nat) => (k ≤ b.length)) z) (fun z : Nat => (fun (k : Nat) => b.length - k) z) 0 ?_ ?_ ?_
      · show (0 ≤ b.length)
        · omega
      · intro A_ W_ hS
        replace hS := qs_set (d := vint .i64 0) 7 (vint .i64 ((0 : Nat) : Int)) (by kernel_rfl) (eqD_int (by omega)) hS
        exact qs_g (by exact fun _ h => h) (qs_proj (ts := [2, 4, 6, 7]) (by kernel_rfl) hS)
      · intro z hz
        revert z; intro k hz
        have hz : (k ≤ b.length) := hz
        have hi0_0 := hz
        have hlb : lenB b k = (b.getD k []).length + 1 := rfl
        refine tq_seq ?_
        refine tq_seq ?_
        refine tq_reg (vc := []) (E' := [(2, none, .p (.v v2_)), (4, none, .p ((eL (eL ePiece 38 dPiece) 1 []) b)), (6, none, .p (.lst 1 b.length (fun q_ => .v (g q_)))), (7, none, vint .i64 ((k : Nat) : Int)), (34, none, vbool (decide (((k : Nat) : Int) < ((b.length : Nat) : Int))))]) [] [2, 4, 6, 7, 34] (by kernel_rfl) ?_ ?_
        · exact trivial
        refine tq_then ?_
        refine tq_condP (decide (((k : Nat) : Int) < ((b.length : Nat) : Int))) (((k : Nat) : Int) < ((b.length : Nat) : Int)) (by simp) (by kernel_rfl) (fun hc3 => ?_) (fun hc3 => ?_)
        · skip
          refine tq_skip ?_
          refine tq_then ?_
          refine tq_seq ?_
          refine tq_block ?_
          refine tqg_store (n := b.length) (e := 4) (rb := rb) (len := lenB b) (G' := (fun w_ => CG F2 b g rb w1 (stX (k + 1)) w_)) (g := g) (f := (fun k_ i_ => .bool (stX k k_ i_))) (f' := (fun i_ => .bool (upd (stX k k) (0) true i_))) (vc1 := [(0 : Int) ≤ ((k : Nat) : Int), ((k : Nat) : Int) < (b.length : Int)]) (vc2 := [(0 : Int) ≤ 0, 0 < (lenB b k : Int), 0 < lenB b k]) (E1 := [(40, none, .p (.v (g k)))]) (f2 := upd (fun x_ => .p (.v ((fun i_ => .bool (stX k k i_)) x_))) 0 (.p (.v (.bool true)))) (E3 := [(2, none, .p (.v v2_)), (4, none, .p ((eL (eL ePiece 38 dPiece) 1 []) b)), (6, none, .p (.lst 1 b.length (fun q_ => .v (g q_)))), (7, none, vint .i64 ((k : Nat) : Int))]) 4 40 k [] [] [40] [2, 4, 6, 7] (by kernel_rfl) ?_ (by kernel_rfl) (by omega) (by kernel_rfl) ?_ ?_ (by kernel_rfl) (by kernel_rfl) ?_ ?_ ?_
          · refine al ?_ (al ?_ (trivial))
            · omega
            · omega
          · refine al ?_ (al ?_ (al ?_ (trivial)))
            · omega -- r10s.0
            · omega -- r10s.1
            · omega -- r10s.2
          · intro i_ _; unfold upd; by_cases h_ : i_ = 0 <;> simp [h_]
          · exact fun w_ hg => hg.2.1
          · exact fun w_ w2_ hg hw hs_ hr => ⟨hs_, by have := BRows.set hr; rw [stX_set] at this; exact this, hg.2.2.next (by omega) hw⟩
          refine qin_n ?_
          refine tq_then ?_
          refine tq_reg (vc := [(IntKind.wrap .i64 (((k : Nat) : Int) + 1)) = (((k + 1) : Nat) : Int)]) (E' := [(2, none, .p (.v v2_)), (4, none, .p ((eL (eL ePiece 38 dPiece) 1 []) b)), (6, none, .p (.lst 1 b.length (fun q_ => .v (g q_)))), (7, none, vint .i64 (((k + 1) : Nat) : Int))]) [(1, vint .i64 (((k + 1) : Nat) : Int))] [2, 4, 6, 7] (by kernel_rfl) ?_ ?_
          · refine al ?_ (trivial)
            · exact wr64 (by omega) (by omega) (by omega)
          refine qlp_end (k + 1) ?_ ?_ ?_
          · show ((k + 1) ≤ b.length)
            · omega
          · show b.length - (k + 1) < b.length - k
            omega
          · intro A_ W_ hS
            exact qs_g (by exact fun _ h => h) (qs_proj (ts := [2, 4, 6, 7]) (by kernel_rfl) hS)
        · skip
          refine tq_exit ?_
          refine tqh_e ?_
          refine tqh_e ?_
          refine qin_hit ?_
          refine tq_then ?_
          refine tq_seq ?_
          refine tq_callF (vc1 := []) (E1 := [(2, none, .p (.v v2_)), (4, none, .p ((eL (eL ePiece 38 dPiece) 1 []) b)), (42, none, .p ((eL (eL ePiece 38 dPiece) 1 []) b)), (43, none, .p (.lst 1 b.length (fun q_ => .v (g q_))))]) (f := 37) (t := 44) 2 [] [2, 4, 42, 43] (by kernel_rfl) trivial (by rfl) (by rfl) (by rfl) (by rfl) (by kernel_rfl) (fun v_ w_ => RelP F2 (.lst 1 b.length (fun k => .v (g k))) [v_] ∧ CG F2 b g rb w1 (closedX b (stX k)) w_) ?_ ?_
          · intro a_ w_ hS_
            obtain ⟨vb_, e1_, e2_⟩ := qs_slot (t := 42) (by kernel_rfl) hS_
            obtain ⟨xv_, e3_, e4_⟩ := qs_slot (t := 43) (by kernel_rfl) hS_
            have h_ := refClosed_ok b (stX k) F2 w_ vb_ xv_ g rb hS_.s e2_ (relV_p e4_ rfl) hS_.g.2.1 hbn hbm
            rw [← eval_tmp e1_, ← eval_tmp e3_] at h_
            rw [show (#[Operand.tmp 42, Operand.tmp 43].map a_.eval) = #[a_.eval (.tmp 42), a_.eval (.tmp 43)] from by simp]
            refine h_.mono ?_
            rintro e_ w2_ ⟨v_, rfl, hp_, hC_⟩
            exact ⟨v_, rfl, hp_, hC_.1, hC_.2.1, wroteAll_trans hS_.g.2.2 hC_.2.2⟩
          rintro a1_ v1_ w2 hE1_ hN1_ hD1_ ⟨hp_, hC_⟩
          rw [show stX k = stX b.length by rw [show k = b.length by omega]] at hC_
          have hC_ : CG F2 b g rb w1 (startX b) w2 := hC_
          have hSL_ : SL ⟨Try.prog, W0_, F_, [], Try.f12.ntmps⟩ [(2, none, .ref 0 []), (4, none, .p ((eL (eL ePiece 38 dPiece) 1 []) b)), (44, none, .p ((eL (eL eB 1 false) 1 []) (GL b.length (lenB b) (startX b))))] [.box (.p (.agg [.v (.slice none 0 0), .v (.slice none 0 0)]))] (a1_.put (some 44) v1_) w2 := by
            have hag_ : ∀ b_ c_, F2 b_ = some c_ → addW F2 b.length rb w2 b_ = some c_ := fun _ _ => addW_ge hC_.2.1
            refine ⟨⟨addW F2 b.length rb w2, γ_, hH_.grew (hC_.2.2.grew hgrew hnew) (fun b_ hb_ => ?_) (addW_sub hC_.1), ?_⟩, by rw [put_size]; exact hN1_, put_defers.trans hD1_⟩
            · rw [addW_old (fun q_ hq_ => by have := hnew q_ hq_; omega)]; exact hF2 b_ hb_
            obtain ⟨u2_, x1_, x2_⟩ := (hE1_ 2 none (.p (.v v2_)) (by kernel_rfl)).1 trivial
            obtain ⟨u4_, x3_, x4_⟩ := (hE1_ 4 none (.p ((eL (eL ePiece 38 dPiece) 1 []) b)) (by kernel_rfl)).1 trivial
            rw [v_val x2_] at x1_
            refine Eng.sle_cons (γ := γ_) ((put_other (dst := some 44) (t := 2) (by simp)).trans x1_) (k2_.mono (fun b_ c_ h_ => hag_ b_ c_ (hge_ b_ c_ h_)) fun _ _ h => h) (Eng.sle_cons (γ := γ_) ((put_other (dst := some 44) (t := 4) (by simp)).trans x3_) (x4_.mono hag_ fun _ _ h => by simp [noG] at h) (Eng.sle_cons (γ := γ_) (put_get hN1_ (by kernel_rfl) rfl) (.one rfl (.p (brows_rest hC_.2.1 hp_))) sle_nil))
          refine seg (vc := []) (E' := [(2, none, .ref 0 []), (4, none, .p ((eL (eL ePiece 38 dPiece) 1 []) b)), (8, none, .own 1)]) (H' := [.box (.p (.agg [.v (.slice none 0 0), .v (.slice none 0 0)])), .arr 77 1 1 (fun j => ([.p ((eL (eL eB 1 false) 1 []) (GL b.length (lenB b) (startX b)))] : List D).getD j default)]) 2 [] [2, 4, 8] 3 (by kernel_rfl) trivial hSL_ (fun a3_ w3_ h3_ => seg_end ?_)
          revert a3_ w3_
          refine nm_pre (E' := [(2, none, .ref 0 []), (4, none, .p ((eL (eL ePiece 38 dPiece) 1 []) b)), (8, none, .own 1)]) (H' := [.box (.p (.agg [.v (.slice none 0 0), .v (.slice none 0 0)])), oL 77 (eL (eL eB 1 false) 1 []) 1 [] ([startX b].map (GL b.length (lenB b)))]) (fun A_ W_ hS => sl_arr (n := 1) (n' := 1) (f := fun j => ([.p ((eL (eL eB 1 false) 1 []) (GL b.length (lenB b) (startX b)))] : List D).getD j default) 1 (fun i => .p ((eL (eL eB 1 false) 1 []) (([startX b].map (GL b.length (lenB b))).getD i []))) (by kernel_rfl) rfl (by intro j_ hj_; obtain rfl : j_ = 0 := (by omega); rfl) hS) ?_
          refine tr_then (tr_seq ?_)
          refine tr_r (vc := []) (E' := [(2, none, .ref 0 []), (4, none, .p ((eL (eL ePiece 38 dPiece) 1 []) b)), (8, none, .own 1), (9, none, .ref 2 [])]) (H' := [.box (.p (.agg [.v (.slice none 0 0), .v (.slice none 0 0)])), oL 77 (eL (eL eB 1 false) 1 []) 1 [] ([startX b].map (GL b.length (lenB b))), .box (.p (.agg [.v (.slice none 0 0), .v (.slice none 0 0)]))]) [] [] [2, 4, 8, 9] (by kernel_rfl) ?_ ?_
          · exact trivial
          refine tr_then (tr_seq ?_)
          refine tr_seq ?_
          refine tr_r (vc := []) (E' := [(2, none, .ref 0 []), (4, none, .p ((eL (eL ePiece 38 dPiece) 1 []) b)), (8, none, .own 1), (9, none, .ref 2 []), (10, none, vint .i64 0)]) (H' := [.box (.p (.agg [.v (.slice none 0 0), .v (.slice none 0 0)])), oL 77 (eL (eL eB 1 false) 1 []) 1 [] ([startX b].map (GL b.length (lenB b))), .box (.p (.agg [.v (.slice none 0 0), .v (.slice none 0 0)]))]) [] [] [2, 4, 8, 9, 10] (by kernel_rfl) ?_ ?_
          · exact trivial
          refine tr_then ?_
          refine tr_block ?_
          refine tr_loop (α := Nat × (List (Nat → Nat → Bool)) × (List Bool) × (List (List Int))) (fun z : Nat × (List (Nat → Nat → Bool)) × (List Bool) × (List (List Int)) => (fun (k : Nat) (L : List (Nat → Nat → Bool)) (A : List Bool) (Nx : List (List Int)) => [(2, none, .ref 0 []), (4, none, .p ((eL (eL ePiece 38 dPiece) 1 []) b)), (8, none, .own 1), (9, none, .ref 2 []), (10, none, vint .i64 ((k : Nat) : Int))]) z.1 z.2.1 z.2.2.1 z.2.2.2) (fun z : Nat × (List (Nat → Nat → Bool)) × (List Bool) × (List (List Int)) => (fun (k : Nat) (L : List (Nat → Nat → Bool)) (A : List Bool) (Nx : List (List Int)) => [.box (.p (.agg [.v (.slice none 0 0), .v (.slice none 0 0)])), oL 77 (eL (eL eB 1 false) 1 []) 1 [] (L.map (GL b.length (lenB b))), .box (.agg [.own 3, .own 4]), oL 4 eB 1 false A, oL 22 (eL eI 1 0) 1 [] Nx]) z.1 z.2.1 z.2.2.1 z.2.2.2) (fun z : Nat × (List (Nat → Nat → Bool)) × (List Bool) × (List (List Int)) => (fun (k : Nat) (L : List (Nat → Nat → Bool)) (A : List Bool) (Nx : List (List Int)) => (bfsG (autR b) (17 - k) L k A Nx = bfsG (autR b) 17 [startX b] 0 [] []) ∧ (k ≤ L.length) ∧ (L.length ≤ 16) ∧ (A.length = k) ∧ (Nx.length = k)) z.1 z.2.1 z.2.2.1 z.2.2.2) (fun z : Nat × (List (Nat → Nat → Bool)) × (List Bool) × (List (List Int)) => (fun (k : Nat) (L : List (Nat → Nat → Bool)) (A : List Bool) (Nx : List (List Int)) => 17 - k) z.1 z.2.1 z.2.2.1 z.2.2.2) (0, [startX b], ([] : List Bool), ([] : List (List Int))) ?_ ?_ ?_
          · show (bfsG (autR b) (17 - 0) ([startX b]) 0 ([] : List Bool) ([] : List (List Int)) = bfsG (autR b) 17 [startX b] 0 [] []) ∧ (0 ≤ ([startX b]).length) ∧ (([startX b]).length ≤ 16) ∧ (([] : List Bool).length = 0) ∧ (([] : List (List Int)).length = 0)
            refine ⟨?_, ?_, ?_, ?_, ?_⟩
            · (simp; done)
            · omega
            · (simp; done)
            · (simp; done)
            · (simp; done)
          · intro A_ W_ hS
            replace hS := sl_set (d := vint .i64 0) 10 (vint .i64 ((0 : Nat) : Int)) (by kernel_rfl) (eqD_int (by omega)) hS
            replace hS := sl_nil_box (d := .p (.agg [.v (.slice none 0 0), .v (.slice none 0 0)])) (l := [.p (.v (.slice none 0 0)), .p (.v (.slice none 0 0))]) 2 0 4 1 (fun i => .p (eB (([] : List Bool).getD i false))) (by kernel_rfl) (by kernel_rfl) (by kernel_rfl) hS
            replace hS := sl_nil_box (d := .agg [.own 3, .p (.v (.slice none 0 0))]) (l := [.own 3, .p (.v (.slice none 0 0))]) 2 1 22 1 (fun i => .p ((eL eI 1 0) (([] : List (List Int)).getD i []))) (by kernel_rfl) (by kernel_rfl) (by kernel_rfl) hS
            replace hS := sl_arr (e := 77) (sz := 1) (n := ([startX b].map (GL b.length (lenB b))).length) (n' := (([startX b]).map (GL b.length (lenB b))).length) (f := (fun i => .p ((eL (eL eB 1 false) 1 []) (([startX b].map (GL b.length (lenB b))).getD i [])))) 1 (fun i => .p ((eL (eL eB 1 false) 1 []) ((([startX b]).map (GL b.length (lenB b))).getD i []))) (by kernel_rfl) (by first | omega | (intro hg; simp at hg; omega) | (simp; done) | (simp_all; done) | (simp_all; omega) | grind) (by first | omega | (intro hg; simp at hg; omega) | (simp; done) | (simp_all; done) | (simp_all; omega) | grind) hS
            exact sl_weak (vc := [∀ i, i < (([startX b]).map (GL b.length (lenB b))).length → D.p ((eL (eL eB 1 false) 1 []) ((([startX b]).map (GL b.length (lenB b))).getD i [])) = .p ((eL (eL eB 1 false) 1 []) ((([startX b]).map (GL b.length (lenB b))).getD i [])), ∀ i, i < ([] : List Bool).length → D.p (eB (([] : List Bool).getD i false)) = .p (eB (([] : List Bool).getD i false)), ∀ i, i < ([] : List (List Int)).length → D.p ((eL eI 1 0) (([] : List (List Int)).getD i [])) = .p ((eL eI 1 0) (([] : List (List Int)).getD i []))]) [0, 1, 2, 3, 4] [2, 4, 8, 9, 10] (by kernel_rfl) (al (fun _ _ => rfl) (al (fun _ _ => rfl) (al (fun _ _ => rfl) trivial))) hS
          · intro z hz
            obtain ⟨k, L, A, Nx⟩ := z
            have hz : (bfsG (autR b) (17 - k) L k A Nx = bfsG (autR b) 17 [startX b] 0 [] []) ∧ (k ≤ L.length) ∧ (L.length ≤ 16) ∧ (A.length = k) ∧ (Nx.length = k) := hz
            obtain ⟨hi1_0, hi1_1, hi1_2, hi1_3, hi1_4⟩ := hz
            have hlm : (L.map (GL b.length (lenB b))).length = L.length := List.length_map ..
            have hgk := fun h : k < L.length => getD_GLM (b := b) (L := L) (k := k) h
            have hr := fun h : k < L.length => rowG_get (A := autR b) (x := L.getD k X0) X0 h 37
            have hlm2 : ((rowG (autR b) (L.getD k X0) L 37).1.map (GL b.length (lenB b))).length = (rowG (autR b) (L.getD k X0) L 37).1.length := List.length_map ..
            refine tr_seq ?_
            refine tr_seq ?_
            refine tr_r (vc := []) (E' := [(2, none, .ref 0 []), (4, none, .p ((eL (eL ePiece 38 dPiece) 1 []) b)), (8, none, .own 1), (9, none, .ref 2 []), (10, none, vint .i64 ((k : Nat) : Int)), (49, none, vbool (decide (((k : Nat) : Int) < (((L.map (GL b.length (lenB b))).length : Nat) : Int))))]) (H' := [.box (.p (.agg [.v (.slice none 0 0), .v (.slice none 0 0)])), oL 77 (eL (eL eB 1 false) 1 []) 1 [] (L.map (GL b.length (lenB b))), .box (.agg [.own 3, .own 4]), oL 4 eB 1 false A, oL 22 (eL eI 1 0) 1 [] Nx]) [] [] [2, 4, 8, 9, 10, 49] (by kernel_rfl) ?_ ?_
            · exact trivial
            refine tr_then ?_
            refine tr_condP (decide (((k : Nat) : Int) < (((L.map (GL b.length (lenB b))).length : Nat) : Int))) (((k : Nat) : Int) < (((L.map (GL b.length (lenB b))).length : Nat) : Int)) (by simp) (by kernel_rfl) (fun hc4 => ?_) (fun hc4 => ?_)
            · skip
              refine tr_skip ?_
              refine tr_then (tr_seq ?_)
              refine tr_block ?_
              refine tr_seq ?_
              refine tr_r (vc := []) (E' := [(2, none, .ref 0 []), (4, none, .p ((eL (eL ePiece 38 dPiece) 1 []) b)), (8, none, .own 1), (9, none, .ref 2 []), (10, none, vint .i64 ((k : Nat) : Int)), (11, none, vbool false)]) (H' := [.box (.p (.agg [.v (.slice none 0 0), .v (.slice none 0 0)])), oL 77 (eL (eL eB 1 false) 1 []) 1 [] (L.map (GL b.length (lenB b))), .box (.agg [.own 3, .own 4]), oL 4 eB 1 false A, oL 22 (eL eI 1 0) 1 [] Nx]) [] [] [2, 4, 8, 9, 10, 11] (by kernel_rfl) ?_ ?_
              · exact trivial
              refine tr_then (tr_seq ?_)
              refine tr_seq ?_
              refine tr_r (vc := []) (E' := [(2, none, .ref 0 []), (4, none, .p ((eL (eL ePiece 38 dPiece) 1 []) b)), (8, none, .own 1), (9, none, .ref 2 []), (10, none, vint .i64 ((k : Nat) : Int)), (11, none, vbool false), (12, none, vint .i64 0)]) (H' := [.box (.p (.agg [.v (.slice none 0 0), .v (.slice none 0 0)])), oL 77 (eL (eL eB 1 false) 1 []) 1 [] (L.map (GL b.length (lenB b))), .box (.agg [.own 3, .own 4]), oL 4 eB 1 false A, oL 22 (eL eI 1 0) 1 [] Nx]) [] [] [2, 4, 8, 9, 10, 11, 12] (by kernel_rfl) ?_ ?_
              · exact trivial
              refine tr_then ?_
              refine tr_block ?_
              refine tr_loop (α := Nat) (fun z : Nat => (fun (q : Nat) => [(2, none, .ref 0 []), (4, none, .p ((eL (eL ePiece 38 dPiece) 1 []) b)), (8, none, .own 1), (9, none, .ref 2 []), (10, none, vint .i64 ((k : Nat) : Int)), (11, none, vbool (accX b (L.getD k X0) q)), (12, none, vint .i64 ((q : Nat) : Int))]) z) (fun z : Nat => (fun (q : Nat) => [.box (.p (.agg [.v (.slice none 0 0), .v (.slice none 0 0)])), oL 77 (eL (eL eB 1 false) 1 []) 1 [] (L.map (GL b.length (lenB b))), .box (.agg [.own 3, .own 4]), oL 4 eB 1 false A, oL 22 (eL eI 1 0) 1 [] Nx]) z) (fun z : Nat => (fun (q : Nat) => (q ≤ b.length)) z) (fun z : Nat => (fun (q : Nat) => b.length - q) z) 0 ?_ ?_ ?_
              · show (0 ≤ b.length)
                · omega
              · intro A_ W_ hS
                replace hS := sl_set (d := vbool false) 11 (vbool (accX b (L.getD k X0) 0)) (by kernel_rfl) (eqD_bool (by rfl)) hS
                replace hS := sl_set (d := vint .i64 0) 12 (vint .i64 ((0 : Nat) : Int)) (by kernel_rfl) (eqD_int (by omega)) hS
                exact sl_weak (vc := [∀ i, i < (L.map (GL b.length (lenB b))).length → D.p ((eL (eL eB 1 false) 1 []) ((L.map (GL b.length (lenB b))).getD i [])) = .p ((eL (eL eB 1 false) 1 []) ((L.map (GL b.length (lenB b))).getD i [])), ∀ i, i < A.length → D.p (eB (A.getD i false)) = .p (eB (A.getD i false)), ∀ i, i < Nx.length → D.p ((eL eI 1 0) (Nx.getD i [])) = .p ((eL eI 1 0) (Nx.getD i []))]) [0, 1, 2, 3, 4] [2, 4, 8, 9, 10, 11, 12] (by kernel_rfl) (al (fun _ _ => rfl) (al (fun _ _ => rfl) (al (fun _ _ => rfl) trivial))) hS
              · intro z hz
                revert z; intro q hz
                have hz : (q ≤ b.length) := hz
                have hi2_0 := hz
                refine tr_seq ?_
                refine tr_seq ?_
                refine tr_r (vc := []) (E' := [(2, none, .ref 0 []), (4, none, .p ((eL (eL ePiece 38 dPiece) 1 []) b)), (8, none, .own 1), (9, none, .ref 2 []), (10, none, vint .i64 ((k : Nat) : Int)), (11, none, vbool (accX b (L.getD k X0) q)), (12, none, vint .i64 ((q : Nat) : Int)), (55, none, vbool (decide (((q : Nat) : Int) < ((b.length : Nat) : Int))))]) (H' := [.box (.p (.agg [.v (.slice none 0 0), .v (.slice none 0 0)])), oL 77 (eL (eL eB 1 false) 1 []) 1 [] (L.map (GL b.length (lenB b))), .box (.agg [.own 3, .own 4]), oL 4 eB 1 false A, oL 22 (eL eI 1 0) 1 [] Nx]) [] [] [2, 4, 8, 9, 10, 11, 12, 55] (by kernel_rfl) ?_ ?_
                · exact trivial
                refine tr_then ?_
                refine tr_condP (decide (((q : Nat) : Int) < ((b.length : Nat) : Int))) (((q : Nat) : Int) < ((b.length : Nat) : Int)) (by simp) (by kernel_rfl) (fun hc5 => ?_) (fun hc5 => ?_)
                · skip
                  refine tr_skip ?_
                  refine tr_then (tr_seq ?_)
                  refine tr_block ?_
                  refine tr_d (vc := [(!(accX b (L.getD k X0) q)) = true → (!(accX b (L.getD k X0) q)) = true, (!(accX b (L.getD k X0) q)) = true → (!(accX b (L.getD k X0) q)) = true, (!(accX b (L.getD k X0) q)) = true → ((0 : Int) ≤ ((k : Nat) : Int)), (!(accX b (L.getD k X0) q)) = true → (((k : Nat) : Int) < ((L.map (GL b.length (lenB b))).length : Int)), (!(accX b (L.getD k X0) q)) = true → (!(accX b (L.getD k X0) q)) = true, (!(accX b (L.getD k X0) q)) = true → (k < (L.map (GL b.length (lenB b))).length), (!(accX b (L.getD k X0) q)) = true → (!(accX b (L.getD k X0) q)) = true, (!(accX b (L.getD k X0) q)) = true → (!(accX b (L.getD k X0) q)) = true, (!(accX b (L.getD k X0) q)) = true → ((0 : Int) ≤ ((q : Nat) : Int)), (!(accX b (L.getD k X0) q)) = true → (((q : Nat) : Int) < (((L.map (GL b.length (lenB b))).getD k []).length : Int)), (!(accX b (L.getD k X0) q)) = true → (!(accX b (L.getD k X0) q)) = true, (!(accX b (L.getD k X0) q)) = true → (!(accX b (L.getD k X0) q)) = true, (!(accX b (L.getD k X0) q)) = true → (!(accX b (L.getD k X0) q)) = true, (!(accX b (L.getD k X0) q)) = true → ((0 : Int) ≤ ((q : Nat) : Int)), (!(accX b (L.getD k X0) q)) = true → (((q : Nat) : Int) < (b.length : Int)), (!(accX b (L.getD k X0) q)) = true → (!(accX b (L.getD k X0) q)) = true, (!(accX b (L.getD k X0) q)) = true → (!(accX b (L.getD k X0) q)) = true, (!(accX b (L.getD k X0) q)) = true → (!(accX b (L.getD k X0) q)) = true, (!(accX b (L.getD k X0) q)) = true → (!(accX b (L.getD k X0) q)) = true, (!(accX b (L.getD k X0) q)) = true → ((0 : Int) ≤ (((b.getD q []).length : Nat) : Int)), (!(accX b (L.getD k X0) q)) = true → ((((b.getD q []).length : Nat) : Int) < ((((L.map (GL b.length (lenB b))).getD k []).getD q []).length : Int)), (!(accX b (L.getD k X0) q)) = true → (!(accX b (L.getD k X0) q)) = true, (!(accX b (L.getD k X0) q)) = true → (((((L.map (GL b.length (lenB b))).getD k []).getD q []).getD ((b.getD q []).length) false) = ((L.getD k X0) q (b.getD q []).length)), (!(accX b (L.getD k X0) q)) = true → (!(accX b (L.getD k X0) q)) = true]) (E' := [(2, none, .ref 0 []), (4, none, .p ((eL (eL ePiece 38 dPiece) 1 []) b)), (8, none, .own 1), (9, none, .ref 2 []), (10, none, vint .i64 ((k : Nat) : Int)), (11, none, vbool ((accX b (L.getD k X0) q) || ((L.getD k X0) q (b.getD q []).length))), (12, none, vint .i64 ((q : Nat) : Int))]) [(15, vbool ((L.getD k X0) q (b.getD q []).length))] [] [2, 4, 8, 9, 10, 11, 12] (by kernel_rfl) (by kernel_rfl) (by kernel_rfl) ?_ ?_
                  · refine al ?_ (al ?_ (al ?_ (al ?_ (al ?_ (al ?_ (al ?_ (al ?_ (al ?_ (al ?_ (al ?_ (al ?_ (al ?_ (al ?_ (al ?_ (al ?_ (al ?_ (al ?_ (al ?_ (al ?_ (al ?_ (al ?_ (al ?_ (al ?_ (trivial))))))))))))))))))))))))
                    · exact id
                    · exact id
                    · omega
                    · omega
                    · exact id
                    · omega
                    · exact id
                    · exact id
                    · omega
                    · intro _; rw [hgk (by omega), GL_len]; omega
                    · exact id
                    · exact id
                    · exact id
                    · omega
                    · omega
                    · exact id
                    · exact id
                    · exact id
                    · exact id
                    · omega
                    · intro _; rw [hgk (by omega), GL_rlen (by omega)]; unfold lenB; omega
                    · exact id
                    · intro _; rw [hgk (by omega)]; exact GL_get (by omega) (by unfold lenB; omega)
                    · exact id
                  refine in_n ?_
                  refine tr_then ?_
                  refine tr_r (vc := [(IntKind.wrap .i64 (((q : Nat) : Int) + 1)) = (((q + 1) : Nat) : Int)]) (E' := [(2, none, .ref 0 []), (4, none, .p ((eL (eL ePiece 38 dPiece) 1 []) b)), (8, none, .own 1), (9, none, .ref 2 []), (10, none, vint .i64 ((k : Nat) : Int)), (11, none, vbool ((accX b (L.getD k X0) q) || ((L.getD k X0) q (b.getD q []).length))), (12, none, vint .i64 (((q + 1) : Nat) : Int))]) (H' := [.box (.p (.agg [.v (.slice none 0 0), .v (.slice none 0 0)])), oL 77 (eL (eL eB 1 false) 1 []) 1 [] (L.map (GL b.length (lenB b))), .box (.agg [.own 3, .own 4]), oL 4 eB 1 false A, oL 22 (eL eI 1 0) 1 [] Nx]) [(1, vint .i64 (((q + 1) : Nat) : Int))] [] [2, 4, 8, 9, 10, 11, 12] (by kernel_rfl) ?_ ?_
                  · refine al ?_ (trivial)
                    · exact wr64 (by omega) (by omega) (by omega)
                  refine lp_end (q + 1) ?_ ?_ ?_
                  · show ((q + 1) ≤ b.length)
                    · omega
                  · show b.length - (q + 1) < b.length - q
                    omega
                  · intro A_ W_ hS
                    replace hS := sl_set (d := vbool ((accX b (L.getD k X0) q) || ((L.getD k X0) q (b.getD q []).length))) 11 (vbool (accX b (L.getD k X0) (q + 1))) (by kernel_rfl) (eqD_bool (by rfl)) hS
                    exact sl_weak (vc := [∀ i, i < (L.map (GL b.length (lenB b))).length → D.p ((eL (eL eB 1 false) 1 []) ((L.map (GL b.length (lenB b))).getD i [])) = .p ((eL (eL eB 1 false) 1 []) ((L.map (GL b.length (lenB b))).getD i [])), ∀ i, i < A.length → D.p (eB (A.getD i false)) = .p (eB (A.getD i false)), ∀ i, i < Nx.length → D.p ((eL eI 1 0) (Nx.getD i [])) = .p ((eL eI 1 0) (Nx.getD i []))]) [0, 1, 2, 3, 4] [2, 4, 8, 9, 10, 11, 12] (by kernel_rfl) (al (fun _ _ => rfl) (al (fun _ _ => rfl) (al (fun _ _ => rfl) trivial))) hS
                · skip
                  refine tr_exit ?_
                  refine th_e ?_
                  refine th_e ?_
                  refine in_hit ?_
                  refine tr_then (tr_seq ?_)
                  refine tr_r (vc := [∀ j, j < 1 → ([.v (.bool (accX b (L.getD k X0) q))] : List PV).getD j default = (fun i => eB (([(accX b (L.getD k X0) q)]).getD i false)) j, (A.length + (([(accX b (L.getD k X0) q)]).length)) * 1 ≤ 140737488355328]) (E' := [(2, none, .ref 0 []), (4, none, .p ((eL (eL ePiece 38 dPiece) 1 []) b)), (8, none, .own 1), (9, none, .ref 2 []), (10, none, vint .i64 ((k : Nat) : Int))]) (H' := [.box (.p (.agg [.v (.slice none 0 0), .v (.slice none 0 0)])), oL 77 (eL (eL eB 1 false) 1 []) 1 [] (L.map (GL b.length (lenB b))), .box (.agg [.own 5, .own 4]), .dead, oL 22 (eL eI 1 0) 1 [] Nx, .arr 4 1 (A.length + ([(accX b (L.getD k X0) q)]).length) (appF (fun i => .p (eB (A.getD i false))) A.length (fun j => .p (eB (([(accX b (L.getD k X0) q)]).getD j false))))]) [] [(3, .p ((eL eB 1 false) ([(accX b (L.getD k X0) q)])))] [2, 4, 8, 9, 10] (by kernel_rfl) ?_ ?_
                  · refine al ?_ (al ?_ (trivial))
                    · exact lit_pv (e := eB) (d := false) (l := [(accX b (L.getD k X0) q)])
                    · (simp_all; omega)
                  refine nm_pre (E' := [(2, none, .ref 0 []), (4, none, .p ((eL (eL ePiece 38 dPiece) 1 []) b)), (8, none, .own 1), (9, none, .ref 2 []), (10, none, vint .i64 ((k : Nat) : Int))]) (H' := [.box (.p (.agg [.v (.slice none 0 0), .v (.slice none 0 0)])), oL 77 (eL (eL eB 1 false) 1 []) 1 [] (L.map (GL b.length (lenB b))), .box (.agg [.own 5, .own 4]), .dead, oL 22 (eL eI 1 0) 1 [] Nx, oL 4 eB 1 false (A ++ ([(accX b (L.getD k X0) q)]))]) (fun A_ W_ hS => sl_arr (n := (A.length + ([(accX b (L.getD k X0) q)]).length)) (n' := (A ++ ([(accX b (L.getD k X0) q)])).length) (f := appF (fun i => .p (eB (A.getD i false))) A.length (fun j => .p (eB (([(accX b (L.getD k X0) q)]).getD j false)))) 5 (fun i => .p (eB ((A ++ ([(accX b (L.getD k X0) q)])).getD i false))) (by kernel_rfl) (by simp) (by first | exact appN | exact nilN | exact app0 | exact nilV _) hS) ?_
                  refine tr_then (tr_seq ?_)
                  refine tr_r (vc := []) (E' := [(2, none, .ref 0 []), (4, none, .p ((eL (eL ePiece 38 dPiece) 1 []) b)), (8, none, .own 1), (9, none, .ref 2 []), (10, none, vint .i64 ((k : Nat) : Int)), (13, none, .p (.v (.slice none 0 0)))]) (H' := [.box (.p (.agg [.v (.slice none 0 0), .v (.slice none 0 0)])), oL 77 (eL (eL eB 1 false) 1 []) 1 [] (L.map (GL b.length (lenB b))), .box (.agg [.own 5, .own 4]), .dead, oL 22 (eL eI 1 0) 1 [] Nx, oL 4 eB 1 false (A ++ ([(accX b (L.getD k X0) q)]))]) [] [] [2, 4, 8, 9, 10, 13] (by kernel_rfl) ?_ ?_
                  · exact trivial
                  refine tr_then (tr_seq ?_)
                  refine tr_seq ?_
                  refine tr_r (vc := []) (E' := [(2, none, .ref 0 []), (4, none, .p ((eL (eL ePiece 38 dPiece) 1 []) b)), (8, none, .own 1), (9, none, .ref 2 []), (10, none, vint .i64 ((k : Nat) : Int)), (13, none, .p (.v (.slice none 0 0))), (14, none, vint .i64 0)]) (H' := [.box (.p (.agg [.v (.slice none 0 0), .v (.slice none 0 0)])), oL 77 (eL (eL eB 1 false) 1 []) 1 [] (L.map (GL b.length (lenB b))), .box (.agg [.own 5, .own 4]), .dead, oL 22 (eL eI 1 0) 1 [] Nx, oL 4 eB 1 false (A ++ ([(accX b (L.getD k X0) q)]))]) [] [] [2, 4, 8, 9, 10, 13, 14] (by kernel_rfl) ?_ ?_
                  · exact trivial
                  refine tr_then ?_
                  refine tr_block ?_
                  refine tr_loop (α := Nat) (fun z : Nat => (fun (c : Nat) => [(2, none, .ref 0 []), (4, none, .p ((eL (eL ePiece 38 dPiece) 1 []) b)), (8, none, .own 1), (9, none, .ref 2 []), (10, none, vint .i64 ((k : Nat) : Int)), (13, none, .own 6), (14, none, vint .i64 ((c : Nat) : Int))]) z) (fun z : Nat => (fun (c : Nat) => [.box (.p (.agg [.v (.slice none 0 0), .v (.slice none 0 0)])), oL 77 (eL (eL eB 1 false) 1 []) 1 [] ((rowG (autR b) (L.getD k X0) L c).1.map (GL b.length (lenB b))), .box (.agg [.own 5, .own 4]), .dead, oL 22 (eL eI 1 0) 1 [] Nx, oL 4 eB 1 false (A ++ ([(accX b (L.getD k X0) q)])), oL 3 eI 1 0 ((rowG (autR b) (L.getD k X0) L c).2)]) z) (fun z : Nat => (fun (c : Nat) => (c ≤ 37)) z) (fun z : Nat => (fun (c : Nat) => 37 - c) z) 0 ?_ ?_ ?_
                  · show (0 ≤ 37)
                    · omega
                  · intro A_ W_ hS
                    replace hS := sl_nil 13 3 1 (fun i => .p (eI (([] : List Int).getD i 0))) (by kernel_rfl) hS
                    replace hS := sl_set (d := vint .i64 0) 14 (vint .i64 ((0 : Nat) : Int)) (by kernel_rfl) (eqD_int (by omega)) hS
                    replace hS := sl_arr (e := 77) (sz := 1) (n := (L.map (GL b.length (lenB b))).length) (n' := ((rowG (autR b) (L.getD k X0) L 0).1.map (GL b.length (lenB b))).length) (f := (fun i => .p ((eL (eL eB 1 false) 1 []) ((L.map (GL b.length (lenB b))).getD i [])))) 1 (fun i => .p ((eL (eL eB 1 false) 1 []) (((rowG (autR b) (L.getD k X0) L 0).1.map (GL b.length (lenB b))).getD i []))) (by kernel_rfl) (by rfl) (by intro j hj; rfl) hS
                    replace hS := sl_arr (e := 3) (sz := 1) (n := ([] : List Int).length) (n' := ([] : List Int).length) (f := (fun i => .p (eI (([] : List Int).getD i 0)))) 6 (fun i => .p (eI (([] : List Int).getD i 0))) (by kernel_rfl) (by rfl) (by intro j hj; rfl) hS
                    exact sl_weak (vc := [∀ i, i < ((rowG (autR b) (L.getD k X0) L 0).1.map (GL b.length (lenB b))).length → D.p ((eL (eL eB 1 false) 1 []) (((rowG (autR b) (L.getD k X0) L 0).1.map (GL b.length (lenB b))).getD i [])) = .p ((eL (eL eB 1 false) 1 []) (((rowG (autR b) (L.getD k X0) L 0).1.map (GL b.length (lenB b))).getD i [])), ∀ i, i < Nx.length → D.p ((eL eI 1 0) (Nx.getD i [])) = .p ((eL eI 1 0) (Nx.getD i [])), ∀ i, i < (A ++ ([(accX b (L.getD k X0) q)])).length → D.p (eB ((A ++ ([(accX b (L.getD k X0) q)])).getD i false)) = .p (eB ((A ++ ([(accX b (L.getD k X0) q)])).getD i false)), ∀ i, i < ([] : List Int).length → D.p (eI (([] : List Int).getD i 0)) = .p (eI (([] : List Int).getD i 0))]) [0, 1, 2, 3, 4, 5, 6] [2, 4, 8, 9, 10, 13, 14] (by kernel_rfl) (al (fun _ _ => rfl) (al (fun _ _ => rfl) (al (fun _ _ => rfl) (al (fun _ _ => rfl) trivial)))) hS
                  · intro z hz
                    revert z; intro c hz
                    have hz : (c ≤ 37) := hz
                    have hi3_0 := hz
                    have hrc := rowG_get (A := autR b) (x := L.getD k X0) X0 (show k < L.length by omega) c
                    have hlc : ((rowG (autR b) (L.getD k X0) L c).1.map (GL b.length (lenB b))).length = (rowG (autR b) (L.getD k X0) L c).1.length := List.length_map ..
                    have hl2 := rowG_len2 (A := autR b) (x := L.getD k X0) (L := L) c
                    refine tr_seq ?_
                    refine tr_seq ?_
                    refine tr_r (vc := []) (E' := [(2, none, .ref 0 []), (4, none, .p ((eL (eL ePiece 38 dPiece) 1 []) b)), (8, none, .own 1), (9, none, .ref 2 []), (10, none, vint .i64 ((k : Nat) : Int)), (13, none, .own 6), (14, none, vint .i64 ((c : Nat) : Int)), (82, none, vbool (decide (((c : Nat) : Int) < 37)))]) (H' := [.box (.p (.agg [.v (.slice none 0 0), .v (.slice none 0 0)])), oL 77 (eL (eL eB 1 false) 1 []) 1 [] ((rowG (autR b) (L.getD k X0) L c).1.map (GL b.length (lenB b))), .box (.agg [.own 5, .own 4]), .dead, oL 22 (eL eI 1 0) 1 [] Nx, oL 4 eB 1 false (A ++ ([(accX b (L.getD k X0) q)])), oL 3 eI 1 0 ((rowG (autR b) (L.getD k X0) L c).2)]) [] [] [2, 4, 8, 9, 10, 13, 14, 82] (by kernel_rfl) ?_ ?_
                    · exact trivial
                    refine tr_then ?_
                    refine tr_condP (decide (((c : Nat) : Int) < 37)) (((c : Nat) : Int) < 37) (by simp) (by kernel_rfl) (fun hc6 => ?_) (fun hc6 => ?_)
                    · skip
                      refine tr_skip ?_
                      refine tr_then (tr_seq ?_)
                      refine tr_block ?_
                      refine tr_seq ?_
                      refine tr_r (vc := [(0 : Int) ≤ ((k : Nat) : Int), ((k : Nat) : Int) < (((rowG (autR b) (L.getD k X0) L c).1.map (GL b.length (lenB b))).length : Int), k < ((rowG (autR b) (L.getD k X0) L c).1.map (GL b.length (lenB b))).length, (((rowG (autR b) (L.getD k X0) L c).1.map (GL b.length (lenB b))).getD k []).length = (GL b.length (lenB b) (L.getD k X0)).length ∧ ∀ j_, j_ < (((rowG (autR b) (L.getD k X0) L c).1.map (GL b.length (lenB b))).getD k []).length → (eL eB 1 false) ((((rowG (autR b) (L.getD k X0) L c).1.map (GL b.length (lenB b))).getD k []).getD j_ []) = (eL eB 1 false) ((GL b.length (lenB b) (L.getD k X0)).getD j_ []), Pure Try.prog 38 [(eL (eL ePiece 38 dPiece) 1 []) b, (eL (eL eB 1 false) 1 []) (GL b.length (lenB b) (L.getD k X0)), .v (.int .i64 ((c : Nat) : Int))] (.p ((eL (eL eB 1 false) 1 []) (GL b.length (lenB b) (stepX b (L.getD k X0) c))))]) (E' := [(2, none, .ref 0 []), (4, none, .p ((eL (eL ePiece 38 dPiece) 1 []) b)), (8, none, .own 1), (9, none, .ref 2 []), (10, none, vint .i64 ((k : Nat) : Int)), (13, none, .own 6), (14, none, vint .i64 ((c : Nat) : Int)), (15, none, .p ((eL (eL eB 1 false) 1 []) (GL b.length (lenB b) (stepX b (L.getD k X0) c))))]) (H' := [.box (.p (.agg [.v (.slice none 0 0), .v (.slice none 0 0)])), oL 77 (eL (eL eB 1 false) 1 []) 1 [] ((rowG (autR b) (L.getD k X0) L c).1.map (GL b.length (lenB b))), .box (.agg [.own 5, .own 4]), .dead, oL 22 (eL eI 1 0) 1 [] Nx, oL 4 eB 1 false (A ++ ([(accX b (L.getD k X0) q)])), oL 3 eI 1 0 ((rowG (autR b) (L.getD k X0) L c).2)]) [(4, .p ((eL (eL eB 1 false) 1 []) (GL b.length (lenB b) (L.getD k X0))))] [(6, .p ((eL (eL eB 1 false) 1 []) (GL b.length (lenB b) (stepX b (L.getD k X0) c))))] [2, 4, 8, 9, 10, 13, 14, 15] (by kernel_rfl) ?_ ?_
                      · refine al ?_ (al ?_ (al ?_ (al ?_ (al ?_ (trivial)))))
                        · omega
                        · omega
                        · omega
                        · grind
                        · exact refStep_ok _ _ _ (by omega) hbn hbm
                      refine tr_then (tr_seq ?_)
                      refine tr_seq ?_
                      refine tr_r (vc := [Pure Try.prog 39 [(eL (eL eB 1 false) 1 []) (GL b.length (lenB b) (stepX b (L.getD k X0) c))] (vbool (decide (noneP (GL b.length (lenB b) (stepX b (L.getD k X0) c)))))]) (E' := [(2, none, .ref 0 []), (4, none, .p ((eL (eL ePiece 38 dPiece) 1 []) b)), (8, none, .own 1), (9, none, .ref 2 []), (10, none, vint .i64 ((k : Nat) : Int)), (13, none, .own 6), (14, none, vint .i64 ((c : Nat) : Int)), (15, none, .p ((eL (eL eB 1 false) 1 []) (GL b.length (lenB b) (stepX b (L.getD k X0) c)))), (93, none, vbool (decide (noneP (GL b.length (lenB b) (stepX b (L.getD k X0) c)))))]) (H' := [.box (.p (.agg [.v (.slice none 0 0), .v (.slice none 0 0)])), oL 77 (eL (eL eB 1 false) 1 []) 1 [] ((rowG (autR b) (L.getD k X0) L c).1.map (GL b.length (lenB b))), .box (.agg [.own 5, .own 4]), .dead, oL 22 (eL eI 1 0) 1 [] Nx, oL 4 eB 1 false (A ++ ([(accX b (L.getD k X0) q)])), oL 3 eI 1 0 ((rowG (autR b) (L.getD k X0) L c).2)]) [] [(1, vbool (decide (noneP (GL b.length (lenB b) (stepX b (L.getD k X0) c)))))] [2, 4, 8, 9, 10, 13, 14, 15, 93] (by kernel_rfl) ?_ ?_
                      · refine al ?_ (trivial)
                        · exact none_ok _ (by rw [GL_len]; omega) (fun j => by have := GL_small (b := b) (stepX b (L.getD k X0) c) hbm j; omega)
                      refine tr_then ?_
                      refine tr_cond (decide (noneP (GL b.length (lenB b) (stepX b (L.getD k X0) c)))) (by kernel_rfl) (fun hc7 => ?_) (fun hc7 => ?_)
                      · skip
                        refine tr_seq ?_
                        refine tr_r (vc := [∀ j, j < 1 → ([.v (.int .i64 (-1))] : List PV).getD j default = (fun i => eI (([(-1)] : List Int).getD i 0)) j, ((((rowG (autR b) (L.getD k X0) L c).2).length) + (([(-1)] : List Int).length)) * 8 ≤ 140737488355328]) (E' := [(2, none, .ref 0 []), (4, none, .p ((eL (eL ePiece 38 dPiece) 1 []) b)), (8, none, .own 1), (9, none, .ref 2 []), (10, none, vint .i64 ((k : Nat) : Int)), (13, none, .own 7), (14, none, vint .i64 ((c : Nat) : Int))]) (H' := [.box (.p (.agg [.v (.slice none 0 0), .v (.slice none 0 0)])), oL 77 (eL (eL eB 1 false) 1 []) 1 [] ((rowG (autR b) (L.getD k X0) L c).1.map (GL b.length (lenB b))), .box (.agg [.own 5, .own 4]), .dead, oL 22 (eL eI 1 0) 1 [] Nx, oL 4 eB 1 false (A ++ ([(accX b (L.getD k X0) q)])), .dead, .arr 3 1 (((rowG (autR b) (L.getD k X0) L c).2).length + ([(-1)] : List Int).length) (appF (fun i => .p (eI (((rowG (autR b) (L.getD k X0) L c).2).getD i 0))) (((rowG (autR b) (L.getD k X0) L c).2).length) (fun j => .p (eI (([(-1)] : List Int).getD j 0))))]) [] [(1, .p ((eL eI 1 0) ([(-1)] : List Int)))] [2, 4, 8, 9, 10, 13, 14] (by kernel_rfl) ?_ ?_
                        · refine al ?_ (al ?_ (trivial))
                          · exact lit_pv (e := eI) (d := 0) (l := ([(-1)] : List Int))
                          · (simp_all; omega)
                        refine nm_pre (E' := [(2, none, .ref 0 []), (4, none, .p ((eL (eL ePiece 38 dPiece) 1 []) b)), (8, none, .own 1), (9, none, .ref 2 []), (10, none, vint .i64 ((k : Nat) : Int)), (13, none, .own 7), (14, none, vint .i64 ((c : Nat) : Int))]) (H' := [.box (.p (.agg [.v (.slice none 0 0), .v (.slice none 0 0)])), oL 77 (eL (eL eB 1 false) 1 []) 1 [] ((rowG (autR b) (L.getD k X0) L c).1.map (GL b.length (lenB b))), .box (.agg [.own 5, .own 4]), .dead, oL 22 (eL eI 1 0) 1 [] Nx, oL 4 eB 1 false (A ++ ([(accX b (L.getD k X0) q)])), .dead, oL 3 eI 1 0 (((rowG (autR b) (L.getD k X0) L c).2) ++ ([(-1)] : List Int))]) (fun A_ W_ hS => sl_arr (n := (((rowG (autR b) (L.getD k X0) L c).2).length + ([(-1)] : List Int).length)) (n' := (((rowG (autR b) (L.getD k X0) L c).2) ++ ([(-1)] : List Int)).length) (f := appF (fun i => .p (eI (((rowG (autR b) (L.getD k X0) L c).2).getD i 0))) (((rowG (autR b) (L.getD k X0) L c).2).length) (fun j => .p (eI (([(-1)] : List Int).getD j 0)))) 7 (fun i => .p (eI ((((rowG (autR b) (L.getD k X0) L c).2) ++ ([(-1)] : List Int)).getD i 0))) (by kernel_rfl) (by simp) (by first | exact appN | exact nilN | exact app0 | exact nilV _) hS) ?_
                        refine tr_then ?_
                        refine tr_exit ?_
                        refine th_e ?_
                        refine in_hit ?_
                        refine tr_then ?_
                        refine tr_r (vc := [(IntKind.wrap .i64 (((c : Nat) : Int) + 1)) = (((c + 1) : Nat) : Int)]) (E' := [(2, none, .ref 0 []), (4, none, .p ((eL (eL ePiece 38 dPiece) 1 []) b)), (8, none, .own 1), (9, none, .ref 2 []), (10, none, vint .i64 ((k : Nat) : Int)), (13, none, .own 7), (14, none, vint .i64 (((c + 1) : Nat) : Int))]) (H' := [.box (.p (.agg [.v (.slice none 0 0), .v (.slice none 0 0)])), oL 77 (eL (eL eB 1 false) 1 []) 1 [] ((rowG (autR b) (L.getD k X0) L c).1.map (GL b.length (lenB b))), .box (.agg [.own 5, .own 4]), .dead, oL 22 (eL eI 1 0) 1 [] Nx, oL 4 eB 1 false (A ++ ([(accX b (L.getD k X0) q)])), .dead, oL 3 eI 1 0 (((rowG (autR b) (L.getD k X0) L c).2) ++ ([(-1)] : List Int))]) [(1, vint .i64 (((c + 1) : Nat) : Int))] [] [2, 4, 8, 9, 10, 13, 14] (by kernel_rfl) ?_ ?_
                        · refine al ?_ (trivial)
                          · exact wr64 (by omega) (by omega) (by omega)
                        refine lp_end (c + 1) ?_ ?_ ?_
                        · show ((c + 1) ≤ 37)
                          · omega
                        · show 37 - (c + 1) < 37 - c
                          omega
                        · intro A_ W_ hS
                          replace hS := sl_arr (e := 77) (sz := 1) (n := ((rowG (autR b) (L.getD k X0) L c).1.map (GL b.length (lenB b))).length) (n' := ((rowG (autR b) (L.getD k X0) L (c + 1)).1.map (GL b.length (lenB b))).length) (f := (fun i => .p ((eL (eL eB 1 false) 1 []) (((rowG (autR b) (L.getD k X0) L c).1.map (GL b.length (lenB b))).getD i [])))) 1 (fun i => .p ((eL (eL eB 1 false) 1 []) (((rowG (autR b) (L.getD k X0) L (c + 1)).1.map (GL b.length (lenB b))).getD i []))) (by kernel_rfl) (by first | (rw [(rowR_n hc7).1]; done) | rfl) (by first | (rw [(rowR_n hc7).1]; exact fun _ _ => rfl) | exact fun _ _ => rfl) hS
                          replace hS := sl_arr (e := 3) (sz := 1) (n := (((rowG (autR b) (L.getD k X0) L c).2) ++ ([(-1)] : List Int)).length) (n' := ((rowG (autR b) (L.getD k X0) L (c + 1)).2).length) (f := (fun i => .p (eI ((((rowG (autR b) (L.getD k X0) L c).2) ++ ([(-1)] : List Int)).getD i 0)))) 7 (fun i => .p (eI (((rowG (autR b) (L.getD k X0) L (c + 1)).2).getD i 0))) (by kernel_rfl) (by first | (rw [(rowR_n hc7).2]; done) | (rw [rowR_at hc7]; done)) (by first | (rw [(rowR_n hc7).2]; exact fun _ _ => rfl) | (rw [rowR_at hc7]; exact fun _ _ => rfl)) hS
                          exact sl_weak (vc := [∀ i, i < ((rowG (autR b) (L.getD k X0) L (c + 1)).1.map (GL b.length (lenB b))).length → D.p ((eL (eL eB 1 false) 1 []) (((rowG (autR b) (L.getD k X0) L (c + 1)).1.map (GL b.length (lenB b))).getD i [])) = .p ((eL (eL eB 1 false) 1 []) (((rowG (autR b) (L.getD k X0) L (c + 1)).1.map (GL b.length (lenB b))).getD i [])), ∀ i, i < Nx.length → D.p ((eL eI 1 0) (Nx.getD i [])) = .p ((eL eI 1 0) (Nx.getD i [])), ∀ i, i < (A ++ ([(accX b (L.getD k X0) q)])).length → D.p (eB ((A ++ ([(accX b (L.getD k X0) q)])).getD i false)) = .p (eB ((A ++ ([(accX b (L.getD k X0) q)])).getD i false)), ∀ i, i < ((rowG (autR b) (L.getD k X0) L (c + 1)).2).length → D.p (eI (((rowG (autR b) (L.getD k X0) L (c + 1)).2).getD i 0)) = .p (eI (((rowG (autR b) (L.getD k X0) L (c + 1)).2).getD i 0))]) [0, 1, 2, 3, 4, 5, 7] [2, 4, 8, 9, 10, 13, 14] (by kernel_rfl) (al (fun _ _ => rfl) (al (fun _ _ => rfl) (al (fun _ _ => rfl) (al (fun _ _ => rfl) trivial)))) hS
                      · skip
                        refine tr_skip ?_
                        refine tr_then (tr_seq ?_)
                        refine tr_lent (T := 77) (sz := 1) (n := ((rowG (autR b) (L.getD k X0) L c).1.map (GL b.length (lenB b))).length) (fo := (fun i => .p ((eL (eL eB 1 false) 1 []) (((rowG (autR b) (L.getD k X0) L c).1.map (GL b.length (lenB b))).getD i [])))) (vc1 := []) (El := [(8, none, .p ((eL (eL (eL eB 1 false) 1 []) 1 []) ((rowG (autR b) (L.getD k X0) L c).1.map (GL b.length (lenB b))))), (15, none, .p ((eL (eL eB 1 false) 1 []) (GL b.length (lenB b) (stepX b (L.getD k X0) c))))]) (E1 := [(98, none, .p ((eL (eL eB 1 false) 1 []) (GL b.length (lenB b) (stepX b (L.getD k X0) c)))), (97, none, .p ((eL (eL (eL eB 1 false) 1 []) 1 []) ((rowG (autR b) (L.getD k X0) L c).1.map (GL b.length (lenB b))))), (8, none, .p ((eL (eL (eL eB 1 false) 1 []) 1 []) ((rowG (autR b) (L.getD k X0) L c).1.map (GL b.length (lenB b))))), (15, none, .p ((eL (eL eB 1 false) 1 []) (GL b.length (lenB b) (stepX b (L.getD k X0) c))))]) (E2 := [(16, none, vint .i64 (findL (GL b.length (lenB b) (stepX b (L.getD k X0) c)) ((rowG (autR b) (L.getD k X0) L c).1.map (GL b.length (lenB b))) 0))]) (E3 := [(2, none, .ref 0 []), (4, none, .p ((eL (eL ePiece 38 dPiece) 1 []) b)), (8, none, .own 1), (9, none, .ref 2 []), (10, none, vint .i64 ((k : Nat) : Int)), (13, none, .own 6), (14, none, vint .i64 ((c : Nat) : Int)), (15, none, .p ((eL (eL eB 1 false) 1 []) (GL b.length (lenB b) (stepX b (L.getD k X0) c))))]) (f := 40) (ps := [(eL (eL (eL eB 1 false) 1 []) 1 []) ((rowG (autR b) (L.getD k X0) L c).1.map (GL b.length (lenB b))), (eL (eL eB 1 false) 1 []) (GL b.length (lenB b) (stepX b (L.getD k X0) c))]) (res := vint .i64 (findL (GL b.length (lenB b) (stepX b (L.getD k X0) c)) ((rowG (autR b) (L.getD k X0) L c).1.map (GL b.length (lenB b))) 0)) 1 (fun j_ => ((eL (eL eB 1 false) 1 []) (((rowG (autR b) (L.getD k X0) L c).1.map (GL b.length (lenB b))).getD j_ []) : PV)) 2 [8, 15] [16] [2, 4, 8, 9, 10, 13, 14, 15] (by kernel_rfl) (fun _ _ => rfl) (by kernel_rfl) (by kernel_rfl) ?_ (by rfl) (by rfl) (by rfl) (by rfl) (by kernel_rfl) (by kernel_rfl) (by kernel_rfl) ?_ (by kernel_rfl) (by kernel_rfl) (by kernel_rfl) (by kernel_rfl) (by kernel_rfl) ?_
                        · exact trivial
                        · exact find_ok _ _ (by rw [List.length_map]; omega) (fun q_ hq_ => by rw [List.length_map] at hq_; rw [getD_GLM hq_]; exact ⟨by rw [GL_len]; omega, fun j_ => by have := GL_small (b := b) ((rowG (autR b) (L.getD k X0) L c).1.getD q_ X0) hbm j_; omega, GL_shape _ _⟩)
                        refine tr_pre (E' := [(2, none, .ref 0 []), (4, none, .p ((eL (eL ePiece 38 dPiece) 1 []) b)), (8, none, .own 1), (9, none, .ref 2 []), (10, none, vint .i64 ((k : Nat) : Int)), (13, none, .own 6), (14, none, vint .i64 ((c : Nat) : Int)), (15, none, .p ((eL (eL eB 1 false) 1 []) (GL b.length (lenB b) (stepX b (L.getD k X0) c)))), (16, none, vint .i64 (findL (GL b.length (lenB b) (stepX b (L.getD k X0) c)) ((rowG (autR b) (L.getD k X0) L c).1.map (GL b.length (lenB b))) 0))]) (H' := [.box (.p (.agg [.v (.slice none 0 0), .v (.slice none 0 0)])), oL 77 (eL (eL eB 1 false) 1 []) 1 [] ((rowG (autR b) (L.getD k X0) L c).1.map (GL b.length (lenB b))), .box (.agg [.own 5, .own 4]), .dead, oL 22 (eL eI 1 0) 1 [] Nx, oL 4 eB 1 false (A ++ ([(accX b (L.getD k X0) q)])), oL 3 eI 1 0 ((rowG (autR b) (L.getD k X0) L c).2)]) (fun A_ W_ hS => sl_proj (ts := [2, 4, 8, 9, 10, 13, 14, 15, 16]) (by kernel_rfl) hS) ?_
                        refine tr_then ?_
                        refine tr_join (α := Unit) (fun z : Unit => [(2, none, .ref 0 []), (4, none, .p ((eL (eL ePiece 38 dPiece) 1 []) b)), (8, none, .own 1), (9, none, .ref 2 []), (10, none, vint .i64 ((k : Nat) : Int)), (13, none, .own 6), (14, none, vint .i64 ((c : Nat) : Int)), (16, none, vint .i64 (atR b (L.getD k X0) L c))]) (fun z : Unit => [.box (.p (.agg [.v (.slice none 0 0), .v (.slice none 0 0)])), oL 77 (eL (eL eB 1 false) 1 []) 1 [] ((rowG (autR b) (L.getD k X0) L (c + 1)).1.map (GL b.length (lenB b))), .box (.agg [.own 5, .own 4]), .dead, oL 22 (eL eI 1 0) 1 [] Nx, oL 4 eB 1 false (A ++ ([(accX b (L.getD k X0) q)])), oL 3 eI 1 0 ((rowG (autR b) (L.getD k X0) L c).2)]) (fun z : Unit => True) ?_ ?_
                        · intro z hz
                          refine tr_r (vc := [∀ j, j < 1 → ([.v (.int .i64 (atR b (L.getD k X0) L c))] : List PV).getD j default = (fun i => eI (([(atR b (L.getD k X0) L c)]).getD i 0)) j, ((((rowG (autR b) (L.getD k X0) L c).2).length) + (([(atR b (L.getD k X0) L c)]).length)) * 8 ≤ 140737488355328]) (E' := [(2, none, .ref 0 []), (4, none, .p ((eL (eL ePiece 38 dPiece) 1 []) b)), (8, none, .own 1), (9, none, .ref 2 []), (10, none, vint .i64 ((k : Nat) : Int)), (13, none, .own 7), (14, none, vint .i64 ((c : Nat) : Int))]) (H' := [.box (.p (.agg [.v (.slice none 0 0), .v (.slice none 0 0)])), oL 77 (eL (eL eB 1 false) 1 []) 1 [] ((rowG (autR b) (L.getD k X0) L (c + 1)).1.map (GL b.length (lenB b))), .box (.agg [.own 5, .own 4]), .dead, oL 22 (eL eI 1 0) 1 [] Nx, oL 4 eB 1 false (A ++ ([(accX b (L.getD k X0) q)])), .dead, .arr 3 1 (((rowG (autR b) (L.getD k X0) L c).2).length + ([(atR b (L.getD k X0) L c)]).length) (appF (fun i => .p (eI (((rowG (autR b) (L.getD k X0) L c).2).getD i 0))) (((rowG (autR b) (L.getD k X0) L c).2).length) (fun j => .p (eI (([(atR b (L.getD k X0) L c)]).getD j 0))))]) [] [(2, .p ((eL eI 1 0) ([(atR b (L.getD k X0) L c)])))] [2, 4, 8, 9, 10, 13, 14] (by kernel_rfl) ?_ ?_
                          · refine al ?_ (al ?_ (trivial))
                            · exact lit_pv (e := eI) (d := 0) (l := [(atR b (L.getD k X0) L c)])
                            · (simp_all; omega)
                          refine nm_pre (E' := [(2, none, .ref 0 []), (4, none, .p ((eL (eL ePiece 38 dPiece) 1 []) b)), (8, none, .own 1), (9, none, .ref 2 []), (10, none, vint .i64 ((k : Nat) : Int)), (13, none, .own 7), (14, none, vint .i64 ((c : Nat) : Int))]) (H' := [.box (.p (.agg [.v (.slice none 0 0), .v (.slice none 0 0)])), oL 77 (eL (eL eB 1 false) 1 []) 1 [] ((rowG (autR b) (L.getD k X0) L (c + 1)).1.map (GL b.length (lenB b))), .box (.agg [.own 5, .own 4]), .dead, oL 22 (eL eI 1 0) 1 [] Nx, oL 4 eB 1 false (A ++ ([(accX b (L.getD k X0) q)])), .dead, oL 3 eI 1 0 (((rowG (autR b) (L.getD k X0) L c).2) ++ ([(atR b (L.getD k X0) L c)]))]) (fun A_ W_ hS => sl_arr (n := (((rowG (autR b) (L.getD k X0) L c).2).length + ([(atR b (L.getD k X0) L c)]).length)) (n' := (((rowG (autR b) (L.getD k X0) L c).2) ++ ([(atR b (L.getD k X0) L c)])).length) (f := appF (fun i => .p (eI (((rowG (autR b) (L.getD k X0) L c).2).getD i 0))) (((rowG (autR b) (L.getD k X0) L c).2).length) (fun j => .p (eI (([(atR b (L.getD k X0) L c)]).getD j 0)))) 7 (fun i => .p (eI ((((rowG (autR b) (L.getD k X0) L c).2) ++ ([(atR b (L.getD k X0) L c)])).getD i 0))) (by kernel_rfl) (by simp) (by first | exact appN | exact nilN | exact app0 | exact nilV _) hS) ?_
                          refine in_n ?_
                          refine tr_then ?_
                          refine tr_r (vc := [(IntKind.wrap .i64 (((c : Nat) : Int) + 1)) = (((c + 1) : Nat) : Int)]) (E' := [(2, none, .ref 0 []), (4, none, .p ((eL (eL ePiece 38 dPiece) 1 []) b)), (8, none, .own 1), (9, none, .ref 2 []), (10, none, vint .i64 ((k : Nat) : Int)), (13, none, .own 7), (14, none, vint .i64 (((c + 1) : Nat) : Int))]) (H' := [.box (.p (.agg [.v (.slice none 0 0), .v (.slice none 0 0)])), oL 77 (eL (eL eB 1 false) 1 []) 1 [] ((rowG (autR b) (L.getD k X0) L (c + 1)).1.map (GL b.length (lenB b))), .box (.agg [.own 5, .own 4]), .dead, oL 22 (eL eI 1 0) 1 [] Nx, oL 4 eB 1 false (A ++ ([(accX b (L.getD k X0) q)])), .dead, oL 3 eI 1 0 (((rowG (autR b) (L.getD k X0) L c).2) ++ ([(atR b (L.getD k X0) L c)]))]) [(1, vint .i64 (((c + 1) : Nat) : Int))] [] [2, 4, 8, 9, 10, 13, 14] (by kernel_rfl) ?_ ?_
                          · refine al ?_ (trivial)
                            · exact wr64 (by omega) (by omega) (by omega)
                          refine lp_end (c + 1) ?_ ?_ ?_
                          · show ((c + 1) ≤ 37)
                            · omega
                          · show 37 - (c + 1) < 37 - c
                            omega
                          · intro A_ W_ hS
                            replace hS := sl_arr (e := 3) (sz := 1) (n := (((rowG (autR b) (L.getD k X0) L c).2) ++ ([(atR b (L.getD k X0) L c)])).length) (n' := ((rowG (autR b) (L.getD k X0) L (c + 1)).2).length) (f := (fun i => .p (eI ((((rowG (autR b) (L.getD k X0) L c).2) ++ ([(atR b (L.getD k X0) L c)])).getD i 0)))) 7 (fun i => .p (eI (((rowG (autR b) (L.getD k X0) L (c + 1)).2).getD i 0))) (by kernel_rfl) (by first | (rw [(rowR_n hc7).2]; done) | (rw [rowR_at hc7]; done)) (by first | (rw [(rowR_n hc7).2]; exact fun _ _ => rfl) | (rw [rowR_at hc7]; exact fun _ _ => rfl)) hS
                            exact sl_weak (vc := [∀ i, i < ((rowG (autR b) (L.getD k X0) L (c + 1)).1.map (GL b.length (lenB b))).length → D.p ((eL (eL eB 1 false) 1 []) (((rowG (autR b) (L.getD k X0) L (c + 1)).1.map (GL b.length (lenB b))).getD i [])) = .p ((eL (eL eB 1 false) 1 []) (((rowG (autR b) (L.getD k X0) L (c + 1)).1.map (GL b.length (lenB b))).getD i [])), ∀ i, i < Nx.length → D.p ((eL eI 1 0) (Nx.getD i [])) = .p ((eL eI 1 0) (Nx.getD i [])), ∀ i, i < (A ++ ([(accX b (L.getD k X0) q)])).length → D.p (eB ((A ++ ([(accX b (L.getD k X0) q)])).getD i false)) = .p (eB ((A ++ ([(accX b (L.getD k X0) q)])).getD i false)), ∀ i, i < ((rowG (autR b) (L.getD k X0) L (c + 1)).2).length → D.p (eI (((rowG (autR b) (L.getD k X0) L (c + 1)).2).getD i 0)) = .p (eI (((rowG (autR b) (L.getD k X0) L (c + 1)).2).getD i 0))]) [0, 1, 2, 3, 4, 5, 7] [2, 4, 8, 9, 10, 13, 14] (by kernel_rfl) (al (fun _ _ => rfl) (al (fun _ _ => rfl) (al (fun _ _ => rfl) (al (fun _ _ => rfl) trivial)))) hS
                        · skip
                          refine tr_seq ?_
                          refine tr_r (vc := []) (E' := [(2, none, .ref 0 []), (4, none, .p ((eL (eL ePiece 38 dPiece) 1 []) b)), (8, none, .own 1), (9, none, .ref 2 []), (10, none, vint .i64 ((k : Nat) : Int)), (13, none, .own 6), (14, none, vint .i64 ((c : Nat) : Int)), (15, none, .p ((eL (eL eB 1 false) 1 []) (GL b.length (lenB b) (stepX b (L.getD k X0) c)))), (16, none, vint .i64 (findL (GL b.length (lenB b) (stepX b (L.getD k X0) c)) ((rowG (autR b) (L.getD k X0) L c).1.map (GL b.length (lenB b))) 0)), (101, none, vbool (decide ((findL (GL b.length (lenB b) (stepX b (L.getD k X0) c)) ((rowG (autR b) (L.getD k X0) L c).1.map (GL b.length (lenB b))) 0) < 0)))]) (H' := [.box (.p (.agg [.v (.slice none 0 0), .v (.slice none 0 0)])), oL 77 (eL (eL eB 1 false) 1 []) 1 [] ((rowG (autR b) (L.getD k X0) L c).1.map (GL b.length (lenB b))), .box (.agg [.own 5, .own 4]), .dead, oL 22 (eL eI 1 0) 1 [] Nx, oL 4 eB 1 false (A ++ ([(accX b (L.getD k X0) q)])), oL 3 eI 1 0 ((rowG (autR b) (L.getD k X0) L c).2)]) [] [] [2, 4, 8, 9, 10, 13, 14, 15, 16, 101] (by kernel_rfl) ?_ ?_
                          · exact trivial
                          refine tr_then ?_
                          refine tr_condP (decide ((findL (GL b.length (lenB b) (stepX b (L.getD k X0) c)) ((rowG (autR b) (L.getD k X0) L c).1.map (GL b.length (lenB b))) 0) < 0)) ((findL (GL b.length (lenB b) (stepX b (L.getD k X0) c)) ((rowG (autR b) (L.getD k X0) L c).1.map (GL b.length (lenB b))) 0) < 0) (by simp) (by kernel_rfl) (fun hc8 => ?_) (fun hc8 => ?_)
                          · skip
                            refine tr_seq ?_
                            refine tr_r (vc := []) (E' := [(2, none, .ref 0 []), (4, none, .p ((eL (eL ePiece 38 dPiece) 1 []) b)), (8, none, .own 1), (9, none, .ref 2 []), (10, none, vint .i64 ((k : Nat) : Int)), (13, none, .own 6), (14, none, vint .i64 ((c : Nat) : Int)), (15, none, .p ((eL (eL eB 1 false) 1 []) (GL b.length (lenB b) (stepX b (L.getD k X0) c)))), (16, none, vint .i64 ((((rowG (autR b) (L.getD k X0) L c).1.map (GL b.length (lenB b))).length : Nat) : Int))]) (H' := [.box (.p (.agg [.v (.slice none 0 0), .v (.slice none 0 0)])), oL 77 (eL (eL eB 1 false) 1 []) 1 [] ((rowG (autR b) (L.getD k X0) L c).1.map (GL b.length (lenB b))), .box (.agg [.own 5, .own 4]), .dead, oL 22 (eL eI 1 0) 1 [] Nx, oL 4 eB 1 false (A ++ ([(accX b (L.getD k X0) q)])), oL 3 eI 1 0 ((rowG (autR b) (L.getD k X0) L c).2)]) [] [] [2, 4, 8, 9, 10, 13, 14, 15, 16] (by kernel_rfl) ?_ ?_
                            · exact trivial
                            refine tr_then ?_
                            refine tr_r (vc := [∀ j, j < 1 → ([(eL (eL eB 1 false) 1 []) (GL b.length (lenB b) (stepX b (L.getD k X0) c))] : List PV).getD j default = (fun i => (eL (eL eB 1 false) 1 []) (([(GL b.length (lenB b) (stepX b (L.getD k X0) c))]).getD i [])) j, ((((rowG (autR b) (L.getD k X0) L c).1.map (GL b.length (lenB b))).length) + (([(GL b.length (lenB b) (stepX b (L.getD k X0) c))]).length)) * 24 ≤ 140737488355328]) (E' := [(2, none, .ref 0 []), (4, none, .p ((eL (eL ePiece 38 dPiece) 1 []) b)), (8, none, .own 7), (9, none, .ref 2 []), (10, none, vint .i64 ((k : Nat) : Int)), (13, none, .own 6), (14, none, vint .i64 ((c : Nat) : Int)), (16, none, vint .i64 ((((rowG (autR b) (L.getD k X0) L c).1.map (GL b.length (lenB b))).length : Nat) : Int))]) (H' := [.box (.p (.agg [.v (.slice none 0 0), .v (.slice none 0 0)])), .dead, .box (.agg [.own 5, .own 4]), .dead, oL 22 (eL eI 1 0) 1 [] Nx, oL 4 eB 1 false (A ++ ([(accX b (L.getD k X0) q)])), oL 3 eI 1 0 ((rowG (autR b) (L.getD k X0) L c).2), .arr 77 1 (((rowG (autR b) (L.getD k X0) L c).1.map (GL b.length (lenB b))).length + ([(GL b.length (lenB b) (stepX b (L.getD k X0) c))]).length) (appF (fun i => .p ((eL (eL eB 1 false) 1 []) (((rowG (autR b) (L.getD k X0) L c).1.map (GL b.length (lenB b))).getD i []))) (((rowG (autR b) (L.getD k X0) L c).1.map (GL b.length (lenB b))).length) (fun j => .p ((eL (eL eB 1 false) 1 []) (([(GL b.length (lenB b) (stepX b (L.getD k X0) c))]).getD j []))))]) [] [(2, .p ((eL (eL (eL eB 1 false) 1 []) 1 []) ([(GL b.length (lenB b) (stepX b (L.getD k X0) c))])))] [2, 4, 8, 9, 10, 13, 14, 16] (by kernel_rfl) ?_ ?_
                            · refine al ?_ (al ?_ (trivial))
                              · exact lit_pv (e := (eL (eL eB 1 false) 1 [])) (d := []) (l := [(GL b.length (lenB b) (stepX b (L.getD k X0) c))])
                              · (simp_all; omega)
                            refine nm_pre (E' := [(2, none, .ref 0 []), (4, none, .p ((eL (eL ePiece 38 dPiece) 1 []) b)), (8, none, .own 7), (9, none, .ref 2 []), (10, none, vint .i64 ((k : Nat) : Int)), (13, none, .own 6), (14, none, vint .i64 ((c : Nat) : Int)), (16, none, vint .i64 ((((rowG (autR b) (L.getD k X0) L c).1.map (GL b.length (lenB b))).length : Nat) : Int))]) (H' := [.box (.p (.agg [.v (.slice none 0 0), .v (.slice none 0 0)])), .dead, .box (.agg [.own 5, .own 4]), .dead, oL 22 (eL eI 1 0) 1 [] Nx, oL 4 eB 1 false (A ++ ([(accX b (L.getD k X0) q)])), oL 3 eI 1 0 ((rowG (autR b) (L.getD k X0) L c).2), oL 77 (eL (eL eB 1 false) 1 []) 1 [] (((rowG (autR b) (L.getD k X0) L c).1.map (GL b.length (lenB b))) ++ ([(GL b.length (lenB b) (stepX b (L.getD k X0) c))]))]) (fun A_ W_ hS => sl_arr (n := (((rowG (autR b) (L.getD k X0) L c).1.map (GL b.length (lenB b))).length + ([(GL b.length (lenB b) (stepX b (L.getD k X0) c))]).length)) (n' := (((rowG (autR b) (L.getD k X0) L c).1.map (GL b.length (lenB b))) ++ ([(GL b.length (lenB b) (stepX b (L.getD k X0) c))])).length) (f := appF (fun i => .p ((eL (eL eB 1 false) 1 []) (((rowG (autR b) (L.getD k X0) L c).1.map (GL b.length (lenB b))).getD i []))) (((rowG (autR b) (L.getD k X0) L c).1.map (GL b.length (lenB b))).length) (fun j => .p ((eL (eL eB 1 false) 1 []) (([(GL b.length (lenB b) (stepX b (L.getD k X0) c))]).getD j [])))) 7 (fun i => .p ((eL (eL eB 1 false) 1 []) ((((rowG (autR b) (L.getD k X0) L c).1.map (GL b.length (lenB b))) ++ ([(GL b.length (lenB b) (stepX b (L.getD k X0) c))])).getD i []))) (by kernel_rfl) (by simp) (by first | exact appN | exact nilN | exact app0 | exact nilV _) hS) ?_
                            refine jn_end () ?_ ?_
                            · exact trivial
                            · intro A_ W_ hS
                              replace hS := sl_set (d := vint .i64 ((((rowG (autR b) (L.getD k X0) L c).1.map (GL b.length (lenB b))).length : Nat) : Int)) 16 (vint .i64 (atR b (L.getD k X0) L c)) (by kernel_rfl) (eqD_int (by first | (rw [(rowR_a hc7 hc8).2, List.length_map]; done) | exact (rowR_i hc7 hc8).2.symm)) hS
                              replace hS := sl_arr (e := 77) (sz := 1) (n := (((rowG (autR b) (L.getD k X0) L c).1.map (GL b.length (lenB b))) ++ ([(GL b.length (lenB b) (stepX b (L.getD k X0) c))])).length) (n' := ((rowG (autR b) (L.getD k X0) L (c + 1)).1.map (GL b.length (lenB b))).length) (f := (fun i => .p ((eL (eL eB 1 false) 1 []) ((((rowG (autR b) (L.getD k X0) L c).1.map (GL b.length (lenB b))) ++ ([(GL b.length (lenB b) (stepX b (L.getD k X0) c))])).getD i [])))) 7 (fun i => .p ((eL (eL eB 1 false) 1 []) (((rowG (autR b) (L.getD k X0) L (c + 1)).1.map (GL b.length (lenB b))).getD i []))) (by kernel_rfl) (by first | (rw [(rowR_a hc7 hc8).1, List.map_append]; rfl) | (rw [(rowR_i hc7 hc8).1]; done)) (by first | (rw [(rowR_a hc7 hc8).1, List.map_append]; exact fun _ _ => rfl) | (rw [(rowR_i hc7 hc8).1]; exact fun _ _ => rfl)) hS
                              exact sl_weak (vc := [∀ i, i < ((rowG (autR b) (L.getD k X0) L (c + 1)).1.map (GL b.length (lenB b))).length → D.p ((eL (eL eB 1 false) 1 []) (((rowG (autR b) (L.getD k X0) L (c + 1)).1.map (GL b.length (lenB b))).getD i [])) = .p ((eL (eL eB 1 false) 1 []) (((rowG (autR b) (L.getD k X0) L (c + 1)).1.map (GL b.length (lenB b))).getD i [])), ∀ i, i < Nx.length → D.p ((eL eI 1 0) (Nx.getD i [])) = .p ((eL eI 1 0) (Nx.getD i [])), ∀ i, i < (A ++ ([(accX b (L.getD k X0) q)])).length → D.p (eB ((A ++ ([(accX b (L.getD k X0) q)])).getD i false)) = .p (eB ((A ++ ([(accX b (L.getD k X0) q)])).getD i false)), ∀ i, i < ((rowG (autR b) (L.getD k X0) L c).2).length → D.p (eI (((rowG (autR b) (L.getD k X0) L c).2).getD i 0)) = .p (eI (((rowG (autR b) (L.getD k X0) L c).2).getD i 0))]) [0, 7, 2, 3, 4, 5, 6] [2, 4, 8, 9, 10, 13, 14, 16] (by kernel_rfl) (al (fun _ _ => rfl) (al (fun _ _ => rfl) (al (fun _ _ => rfl) (al (fun _ _ => rfl) trivial)))) hS
                          · skip
                            refine tr_skip ?_
                            refine jn_end () ?_ ?_
                            · exact trivial
                            · intro A_ W_ hS
                              replace hS := sl_set (d := vint .i64 (findL (GL b.length (lenB b) (stepX b (L.getD k X0) c)) ((rowG (autR b) (L.getD k X0) L c).1.map (GL b.length (lenB b))) 0)) 16 (vint .i64 (atR b (L.getD k X0) L c)) (by kernel_rfl) (eqD_int (by first | (rw [(rowR_a hc7 hc8).2, List.length_map]; done) | exact (rowR_i hc7 hc8).2.symm)) hS
                              replace hS := sl_arr (e := 77) (sz := 1) (n := ((rowG (autR b) (L.getD k X0) L c).1.map (GL b.length (lenB b))).length) (n' := ((rowG (autR b) (L.getD k X0) L (c + 1)).1.map (GL b.length (lenB b))).length) (f := (fun i => .p ((eL (eL eB 1 false) 1 []) (((rowG (autR b) (L.getD k X0) L c).1.map (GL b.length (lenB b))).getD i [])))) 1 (fun i => .p ((eL (eL eB 1 false) 1 []) (((rowG (autR b) (L.getD k X0) L (c + 1)).1.map (GL b.length (lenB b))).getD i []))) (by kernel_rfl) (by first | (rw [(rowR_a hc7 hc8).1, List.map_append]; rfl) | (rw [(rowR_i hc7 hc8).1]; done)) (by first | (rw [(rowR_a hc7 hc8).1, List.map_append]; exact fun _ _ => rfl) | (rw [(rowR_i hc7 hc8).1]; exact fun _ _ => rfl)) hS
                              exact sl_weak (vc := [∀ i, i < ((rowG (autR b) (L.getD k X0) L (c + 1)).1.map (GL b.length (lenB b))).length → D.p ((eL (eL eB 1 false) 1 []) (((rowG (autR b) (L.getD k X0) L (c + 1)).1.map (GL b.length (lenB b))).getD i [])) = .p ((eL (eL eB 1 false) 1 []) (((rowG (autR b) (L.getD k X0) L (c + 1)).1.map (GL b.length (lenB b))).getD i [])), ∀ i, i < Nx.length → D.p ((eL eI 1 0) (Nx.getD i [])) = .p ((eL eI 1 0) (Nx.getD i [])), ∀ i, i < (A ++ ([(accX b (L.getD k X0) q)])).length → D.p (eB ((A ++ ([(accX b (L.getD k X0) q)])).getD i false)) = .p (eB ((A ++ ([(accX b (L.getD k X0) q)])).getD i false)), ∀ i, i < ((rowG (autR b) (L.getD k X0) L c).2).length → D.p (eI (((rowG (autR b) (L.getD k X0) L c).2).getD i 0)) = .p (eI (((rowG (autR b) (L.getD k X0) L c).2).getD i 0))]) [0, 1, 2, 3, 4, 5, 6] [2, 4, 8, 9, 10, 13, 14, 16] (by kernel_rfl) (al (fun _ _ => rfl) (al (fun _ _ => rfl) (al (fun _ _ => rfl) (al (fun _ _ => rfl) trivial)))) hS
                    · skip
                      refine tr_exit ?_
                      refine th_e ?_
                      refine th_e ?_
                      refine in_hit ?_
                      refine tr_then (tr_seq ?_)
                      refine tr_pre (E' := [(2, none, .ref 0 []), (4, none, .p ((eL (eL ePiece 38 dPiece) 1 []) b)), (8, none, .own 1), (9, none, .ref 2 []), (10, none, vint .i64 ((k : Nat) : Int)), (13, none, .p ((eL eI 1 0) ((rowG (autR b) (L.getD k X0) L c).2))), (14, none, vint .i64 ((c : Nat) : Int)), (82, none, vbool (decide (((c : Nat) : Int) < 37)))]) (H' := [.box (.p (.agg [.v (.slice none 0 0), .v (.slice none 0 0)])), oL 77 (eL (eL eB 1 false) 1 []) 1 [] ((rowG (autR b) (L.getD k X0) L c).1.map (GL b.length (lenB b))), .box (.agg [.own 5, .own 4]), .dead, oL 22 (eL eI 1 0) 1 [] Nx, oL 4 eB 1 false (A ++ ([(accX b (L.getD k X0) q)])), .dead]) (fun A_ W_ hS => sl_freeze (vc := [∀ j, j < ((rowG (autR b) (L.getD k X0) L c).2).length → D.p (eI (((rowG (autR b) (L.getD k X0) L c).2).getD j 0)) = .p ((fun j => eI (((rowG (autR b) (L.getD k X0) L c).2).getD j 0)) j), ∀ i, i < ((rowG (autR b) (L.getD k X0) L c).1.map (GL b.length (lenB b))).length → D.p ((eL (eL eB 1 false) 1 []) (((rowG (autR b) (L.getD k X0) L c).1.map (GL b.length (lenB b))).getD i [])) = .p ((eL (eL eB 1 false) 1 []) (((rowG (autR b) (L.getD k X0) L c).1.map (GL b.length (lenB b))).getD i [])), ∀ i, i < Nx.length → D.p ((eL eI 1 0) (Nx.getD i [])) = .p ((eL eI 1 0) (Nx.getD i [])), ∀ i, i < (A ++ ([(accX b (L.getD k X0) q)])).length → D.p (eB ((A ++ ([(accX b (L.getD k X0) q)])).getD i false)) = .p (eB ((A ++ ([(accX b (L.getD k X0) q)])).getD i false))]) 6 (fun j => eI (((rowG (autR b) (L.getD k X0) L c).2).getD j 0)) (by kernel_rfl) (al (fun _ _ => rfl) (al (fun _ _ => rfl) (al (fun _ _ => rfl) (al (fun _ _ => rfl) trivial)))) hS) ?_
                      refine tr_r (vc := [∀ j, j < 1 → ([(eL eI 1 0) ((rowG (autR b) (L.getD k X0) L c).2)] : List PV).getD j default = (fun i => (eL eI 1 0) (([(rowG (autR b) (L.getD k X0) L c).2]).getD i [])) j, (Nx.length + (([(rowG (autR b) (L.getD k X0) L c).2]).length)) * 24 ≤ 140737488355328]) (E' := [(2, none, .ref 0 []), (4, none, .p ((eL (eL ePiece 38 dPiece) 1 []) b)), (8, none, .own 1), (9, none, .ref 2 []), (10, none, vint .i64 ((k : Nat) : Int))]) (H' := [.box (.p (.agg [.v (.slice none 0 0), .v (.slice none 0 0)])), oL 77 (eL (eL eB 1 false) 1 []) 1 [] ((rowG (autR b) (L.getD k X0) L c).1.map (GL b.length (lenB b))), .box (.agg [.own 5, .own 7]), .dead, .dead, oL 4 eB 1 false (A ++ ([(accX b (L.getD k X0) q)])), .dead, .arr 22 1 (Nx.length + ([(rowG (autR b) (L.getD k X0) L c).2]).length) (appF (fun i => .p ((eL eI 1 0) (Nx.getD i []))) Nx.length (fun j => .p ((eL eI 1 0) (([(rowG (autR b) (L.getD k X0) L c).2]).getD j []))))]) [] [(3, .p ((eL (eL eI 1 0) 1 []) ([(rowG (autR b) (L.getD k X0) L c).2])))] [2, 4, 8, 9, 10] (by kernel_rfl) ?_ ?_
                      · refine al ?_ (al ?_ (trivial))
                        · exact lit_pv (e := (eL eI 1 0)) (d := []) (l := [(rowG (autR b) (L.getD k X0) L c).2])
                        · (simp_all; omega)
                      refine nm_pre (E' := [(2, none, .ref 0 []), (4, none, .p ((eL (eL ePiece 38 dPiece) 1 []) b)), (8, none, .own 1), (9, none, .ref 2 []), (10, none, vint .i64 ((k : Nat) : Int))]) (H' := [.box (.p (.agg [.v (.slice none 0 0), .v (.slice none 0 0)])), oL 77 (eL (eL eB 1 false) 1 []) 1 [] ((rowG (autR b) (L.getD k X0) L c).1.map (GL b.length (lenB b))), .box (.agg [.own 5, .own 7]), .dead, .dead, oL 4 eB 1 false (A ++ ([(accX b (L.getD k X0) q)])), .dead, oL 22 (eL eI 1 0) 1 [] (Nx ++ ([(rowG (autR b) (L.getD k X0) L c).2]))]) (fun A_ W_ hS => sl_arr (n := (Nx.length + ([(rowG (autR b) (L.getD k X0) L c).2]).length)) (n' := (Nx ++ ([(rowG (autR b) (L.getD k X0) L c).2])).length) (f := appF (fun i => .p ((eL eI 1 0) (Nx.getD i []))) Nx.length (fun j => .p ((eL eI 1 0) (([(rowG (autR b) (L.getD k X0) L c).2]).getD j [])))) 7 (fun i => .p ((eL eI 1 0) ((Nx ++ ([(rowG (autR b) (L.getD k X0) L c).2])).getD i []))) (by kernel_rfl) (by simp) (by first | exact appN | exact nilN | exact app0 | exact nilV _) hS) ?_
                      refine tr_then (tr_seq ?_)
                      refine tr_r (vc := []) (E' := [(2, none, .ref 0 []), (4, none, .p ((eL (eL ePiece 38 dPiece) 1 []) b)), (8, none, .own 1), (9, none, .ref 2 []), (10, none, vint .i64 ((k : Nat) : Int)), (120, none, vbool (decide (16 < ((((rowG (autR b) (L.getD k X0) L c).1.map (GL b.length (lenB b))).length : Nat) : Int))))]) (H' := [.box (.p (.agg [.v (.slice none 0 0), .v (.slice none 0 0)])), oL 77 (eL (eL eB 1 false) 1 []) 1 [] ((rowG (autR b) (L.getD k X0) L c).1.map (GL b.length (lenB b))), .box (.agg [.own 5, .own 7]), .dead, .dead, oL 4 eB 1 false (A ++ ([(accX b (L.getD k X0) q)])), .dead, oL 22 (eL eI 1 0) 1 [] (Nx ++ ([(rowG (autR b) (L.getD k X0) L c).2]))]) [] [] [2, 4, 8, 9, 10, 120] (by kernel_rfl) ?_ ?_
                      · exact trivial
                      refine tr_then ?_
                      refine tr_condP (decide (16 < ((((rowG (autR b) (L.getD k X0) L c).1.map (GL b.length (lenB b))).length : Nat) : Int))) (16 < ((((rowG (autR b) (L.getD k X0) L c).1.map (GL b.length (lenB b))).length : Nat) : Int)) (by simp) (by kernel_rfl) (fun hc9 => ?_) (fun hc9 => ?_)
                      · skip
                        refine tr_seq ?_
                        refine tr_r (vc := []) (E' := [(2, none, .ref 0 []), (3, none, vint .i64 2)]) (H' := [.box (.p (.agg [.v (.slice none 0 0), .v (.slice none 0 0)])), oL 77 (eL (eL eB 1 false) 1 []) 1 [] ((rowG (autR b) (L.getD k X0) L c).1.map (GL b.length (lenB b))), .box (.agg [.own 5, .own 7]), .dead, .dead, oL 4 eB 1 false (A ++ ([(accX b (L.getD k X0) q)])), .dead, oL 22 (eL eI 1 0) 1 [] (Nx ++ ([(rowG (autR b) (L.getD k X0) L c).2]))]) [] [] [2, 3] (by kernel_rfl) ?_ ?_
                        · exact trivial
                        refine tr_then ?_
                        refine tr_pre (E' := [(2, none, .ref 0 []), (3, none, vint .i64 2)]) (H' := [.box (.p (.agg [.v (.slice none 0 0), .v (.slice none 0 0)]))]) (fun A_ W_ hS => sl_weak (vc := []) [0] [2, 3] (by kernel_rfl) trivial hS) ?_
                        refine tr_pre (E' := [(2, none, .ref 0 []), (3, none, vint .i64 2)]) (H' := [.box (.p (eLang ((refLang s).1)))]) (fun A_ W_ hS => sl_obj_imp (d := .p (.agg [.v (.slice none 0 0), .v (.slice none 0 0)])) 0 (.p (eLang ((refLang s).1))) (by kernel_rfl) ?_ hS) ?_
                        · refine err_lang ?_
                          first | (rw [refLang_1 (by omega)]; done) | (rw [refLang_2 (by omega) hc2]; done) | (obtain rfl : c = 37 := (by omega); rw [refLang_3 (by omega) hc2 (by rw [hbb, ← hi1_0]; exact bfsG_many X0 (by omega) (by omega) (by omega))]; done) | (rw [refLang_4 (by omega) hc2 (by rw [hbb, ← hi1_0]; exact bfsG_end (by omega) (by omega))]; done)
                        refine tr_pre (E' := (3, none, vint .i64 ((refLang s).2)) :: [(2, none, .ref 0 []), (3, none, vint .i64 2)]) (H' := [.box (.p (eLang ((refLang s).1)))]) (fun A_ W_ hS => sl_set_imp (d := vint .i64 2) 3 (vint .i64 ((refLang s).2)) (by kernel_rfl) ?_ hS) ?_
                        · refine imp_eq (congrArg (fun x => D.p (eI x)) (a₁ := 2) (a₂ := ((refLang s).2)) ?_)
                          first | (rw [refLang_1 (by omega)]; done) | (rw [refLang_2 (by omega) hc2]; done) | (obtain rfl : c = 37 := (by omega); rw [refLang_3 (by omega) hc2 (by rw [hbb, ← hi1_0]; exact bfsG_many X0 (by omega) (by omega) (by omega))]; done) | (rw [refLang_4 (by omega) hc2 (by rw [hbb, ← hi1_0]; exact bfsG_end (by omega) (by omega))]; done)
                        refine tr_pre (E' := [(2, none, .ref 0 []), (3, none, vint .i64 ((refLang s).2))]) (H' := [.box (.p (eLang ((refLang s).1)))]) (fun A_ W_ hS => sl_proj (ts := [2, 3]) (by kernel_rfl) hS) ?_
                        exact tr_return' (vc := []) (ds := [.p (eLang ((refLang s).1)), vint .i64 ((refLang s).2)]) (by kernel_rfl) trivial (by kernel_rfl) (fun _ _ h => h)
                      · skip
                        refine tr_skip ?_
                        refine in_n ?_
                        refine tr_then ?_
                        refine tr_r (vc := [(IntKind.wrap .i64 (((k : Nat) : Int) + 1)) = (((k + 1) : Nat) : Int)]) (E' := [(2, none, .ref 0 []), (4, none, .p ((eL (eL ePiece 38 dPiece) 1 []) b)), (8, none, .own 1), (9, none, .ref 2 []), (10, none, vint .i64 (((k + 1) : Nat) : Int))]) (H' := [.box (.p (.agg [.v (.slice none 0 0), .v (.slice none 0 0)])), oL 77 (eL (eL eB 1 false) 1 []) 1 [] ((rowG (autR b) (L.getD k X0) L c).1.map (GL b.length (lenB b))), .box (.agg [.own 5, .own 7]), .dead, .dead, oL 4 eB 1 false (A ++ ([(accX b (L.getD k X0) q)])), .dead, oL 22 (eL eI 1 0) 1 [] (Nx ++ ([(rowG (autR b) (L.getD k X0) L c).2]))]) [(1, vint .i64 (((k + 1) : Nat) : Int))] [] [2, 4, 8, 9, 10] (by kernel_rfl) ?_ ?_
                        · refine al ?_ (trivial)
                          · exact wr64 (by omega) (by omega) (by omega)
                        refine lp_end ((k + 1), (rowG (autR b) (L.getD k X0) L 37).1, (A ++ [accX b (L.getD k X0) b.length]), (Nx ++ [(rowG (autR b) (L.getD k X0) L 37).2])) ?_ ?_ ?_
                        · show (bfsG (autR b) (17 - (k + 1)) ((rowG (autR b) (L.getD k X0) L 37).1) (k + 1) (A ++ [accX b (L.getD k X0) b.length]) (Nx ++ [(rowG (autR b) (L.getD k X0) L 37).2]) = bfsG (autR b) 17 [startX b] 0 [] []) ∧ ((k + 1) ≤ ((rowG (autR b) (L.getD k X0) L 37).1).length) ∧ (((rowG (autR b) (L.getD k X0) L 37).1).length ≤ 16) ∧ ((A ++ [accX b (L.getD k X0) b.length]).length = (k + 1)) ∧ ((Nx ++ [(rowG (autR b) (L.getD k X0) L 37).2]).length = (k + 1))
                          refine ⟨?_, ?_, ?_, ?_, ?_⟩
                          · obtain rfl : c = 37 := (by omega); rw [← hi1_0, bfsG_step (n := 17 - k) X0 (by omega) (by omega) (by omega), Nat.sub_sub]; rfl
                          · omega
                          · grind
                          · (simp_all; done)
                          · (simp_all; done)
                        · show 17 - (k + 1) < 17 - k
                          omega
                        · intro A_ W_ hS
                          replace hS := sl_arr (e := 77) (sz := 1) (n := ((rowG (autR b) (L.getD k X0) L c).1.map (GL b.length (lenB b))).length) (n' := (((rowG (autR b) (L.getD k X0) L 37).1).map (GL b.length (lenB b))).length) (f := (fun i => .p ((eL (eL eB 1 false) 1 []) (((rowG (autR b) (L.getD k X0) L c).1.map (GL b.length (lenB b))).getD i [])))) 1 (fun i => .p ((eL (eL eB 1 false) 1 []) ((((rowG (autR b) (L.getD k X0) L 37).1).map (GL b.length (lenB b))).getD i []))) (by kernel_rfl) (by first | omega | (intro hg; simp at hg; omega) | (simp; done) | (simp_all; done) | (simp_all; omega) | grind) (by first | omega | (intro hg; simp at hg; omega) | (simp; done) | (simp_all; done) | (simp_all; omega) | grind) hS
                          replace hS := sl_arr (e := 4) (sz := 1) (n := (A ++ ([(accX b (L.getD k X0) q)])).length) (n' := (A ++ [accX b (L.getD k X0) b.length]).length) (f := (fun i => .p (eB ((A ++ ([(accX b (L.getD k X0) q)])).getD i false)))) 5 (fun i => .p (eB ((A ++ [accX b (L.getD k X0) b.length]).getD i false))) (by kernel_rfl) (by first | omega | (intro hg; simp at hg; omega) | (simp; done) | (simp_all; done) | (simp_all; omega) | grind) (by first | omega | (intro hg; simp at hg; omega) | (simp; done) | (simp_all; done) | (simp_all; omega) | grind) hS
                          replace hS := sl_arr (e := 22) (sz := 1) (n := (Nx ++ ([(rowG (autR b) (L.getD k X0) L c).2])).length) (n' := (Nx ++ [(rowG (autR b) (L.getD k X0) L 37).2]).length) (f := (fun i => .p ((eL eI 1 0) ((Nx ++ ([(rowG (autR b) (L.getD k X0) L c).2])).getD i [])))) 7 (fun i => .p ((eL eI 1 0) ((Nx ++ [(rowG (autR b) (L.getD k X0) L 37).2]).getD i []))) (by kernel_rfl) (by first | omega | (intro hg; simp at hg; omega) | (simp; done) | (simp_all; done) | (simp_all; omega) | grind) (by first | omega | (intro hg; simp at hg; omega) | (simp; done) | (simp_all; done) | (simp_all; omega) | grind) hS
                          exact sl_weak (vc := [∀ i, i < (((rowG (autR b) (L.getD k X0) L 37).1).map (GL b.length (lenB b))).length → D.p ((eL (eL eB 1 false) 1 []) ((((rowG (autR b) (L.getD k X0) L 37).1).map (GL b.length (lenB b))).getD i [])) = .p ((eL (eL eB 1 false) 1 []) ((((rowG (autR b) (L.getD k X0) L 37).1).map (GL b.length (lenB b))).getD i [])), ∀ i, i < (A ++ [accX b (L.getD k X0) b.length]).length → D.p (eB ((A ++ [accX b (L.getD k X0) b.length]).getD i false)) = .p (eB ((A ++ [accX b (L.getD k X0) b.length]).getD i false)), ∀ i, i < (Nx ++ [(rowG (autR b) (L.getD k X0) L 37).2]).length → D.p ((eL eI 1 0) ((Nx ++ [(rowG (autR b) (L.getD k X0) L 37).2]).getD i [])) = .p ((eL eI 1 0) ((Nx ++ [(rowG (autR b) (L.getD k X0) L 37).2]).getD i []))]) [0, 1, 2, 5, 7] [2, 4, 8, 9, 10] (by kernel_rfl) (al (fun _ _ => rfl) (al (fun _ _ => rfl) (al (fun _ _ => rfl) trivial))) hS
            · skip
              refine tr_exit ?_
              refine th_e ?_
              refine th_e ?_
              refine in_hit ?_
              refine tr_then (tr_seq ?_)
              refine tr_r (vc := []) (E' := [(2, none, .ref 0 []), (3, none, vint .i64 0)]) (H' := [.box (.agg [.own 3, .own 4]), oL 77 (eL (eL eB 1 false) 1 []) 1 [] (L.map (GL b.length (lenB b))), .box (.agg [.own 3, .own 4]), oL 4 eB 1 false A, oL 22 (eL eI 1 0) 1 [] Nx]) [] [] [2, 3] (by kernel_rfl) ?_ ?_
              · exact trivial
              refine tr_then ?_
              refine tr_pre (E' := [(2, none, .ref 0 []), (3, none, vint .i64 0)]) (H' := [.box (.agg [.own 1, .own 2]), oL 4 eB 1 false A, oL 22 (eL eI 1 0) 1 [] Nx]) (fun A_ W_ hS => sl_weak (vc := [∀ i, i < A.length → D.p (eB (A.getD i false)) = .p (eB (A.getD i false)), ∀ i, i < Nx.length → D.p ((eL eI 1 0) (Nx.getD i [])) = .p ((eL eI 1 0) (Nx.getD i []))]) [0, 3, 4] [2, 3] (by kernel_rfl) (al (fun _ _ => rfl) (al (fun _ _ => rfl) trivial)) hS) ?_
              refine tr_pre (E' := [(2, none, .ref 0 []), (3, none, vint .i64 0)]) (H' := [.box (.agg [.p ((eL eB 1 false) A), .own 2]), .dead, oL 22 (eL eI 1 0) 1 [] Nx]) (fun A_ W_ hS => sl_freeze (vc := [∀ j, j < A.length → D.p (eB (A.getD j false)) = .p ((fun j => eB (A.getD j false)) j), ∀ i, i < Nx.length → D.p ((eL eI 1 0) (Nx.getD i [])) = .p ((eL eI 1 0) (Nx.getD i []))]) 1 (fun j => eB (A.getD j false)) (by kernel_rfl) (al (fun _ _ => rfl) (al (fun _ _ => rfl) trivial)) hS) ?_
              refine tr_pre (E' := [(2, none, .ref 0 []), (3, none, vint .i64 0)]) (H' := [.box (.p (.agg [(eL eB 1 false) A, (eL (eL eI 1 0) 1 []) Nx])), .dead, .dead]) (fun A_ W_ hS => sl_freeze (vc := [∀ j, j < Nx.length → D.p ((eL eI 1 0) (Nx.getD j [])) = .p ((fun j => (eL eI 1 0) (Nx.getD j [])) j)]) 2 (fun j => (eL eI 1 0) (Nx.getD j [])) (by kernel_rfl) (al (fun _ _ => rfl) trivial) hS) ?_
              refine tr_pre (E' := [(2, none, .ref 0 []), (3, none, vint .i64 0)]) (H' := [.box (.p (eLang ((refLang s).1))), .dead, .dead]) (fun A_ W_ hS => sl_obj_imp (d := .p (.agg [(eL eB 1 false) A, (eL (eL eI 1 0) 1 []) Nx])) 0 (.p (eLang ((refLang s).1))) (by kernel_rfl) ?_ hS) ?_
              · refine ok_lang ?_
                first | (rw [refLang_1 (by omega)]; done) | (rw [refLang_2 (by omega) hc2]; done) | (obtain rfl : c = 37 := (by omega); rw [refLang_3 (by omega) hc2 (by rw [hbb, ← hi1_0]; exact bfsG_many X0 (by omega) (by omega) (by omega))]; done) | (rw [refLang_4 (by omega) hc2 (by rw [hbb, ← hi1_0]; exact bfsG_end (by omega) (by omega))]; done)
              refine tr_pre (E' := (3, none, vint .i64 ((refLang s).2)) :: [(2, none, .ref 0 []), (3, none, vint .i64 0)]) (H' := [.box (.p (eLang ((refLang s).1))), .dead, .dead]) (fun A_ W_ hS => sl_set_imp (d := vint .i64 0) 3 (vint .i64 ((refLang s).2)) (by kernel_rfl) ?_ hS) ?_
              · refine imp_eq (congrArg (fun x => D.p (eI x)) (a₁ := 0) (a₂ := ((refLang s).2)) ?_)
                first | (rw [refLang_1 (by omega)]; done) | (rw [refLang_2 (by omega) hc2]; done) | (obtain rfl : c = 37 := (by omega); rw [refLang_3 (by omega) hc2 (by rw [hbb, ← hi1_0]; exact bfsG_many X0 (by omega) (by omega) (by omega))]; done) | (rw [refLang_4 (by omega) hc2 (by rw [hbb, ← hi1_0]; exact bfsG_end (by omega) (by omega))]; done)
              refine tr_pre (E' := [(2, none, .ref 0 []), (3, none, vint .i64 ((refLang s).2))]) (H' := [.box (.p (eLang ((refLang s).1))), .dead, .dead]) (fun A_ W_ hS => sl_proj (ts := [2, 3]) (by kernel_rfl) hS) ?_
              exact tr_return' (vc := []) (ds := [.p (eLang ((refLang s).1)), vint .i64 ((refLang s).2)]) (by kernel_rfl) trivial (by kernel_rfl) (fun _ _ h => h)
end Go.Proofs.Ytjnjmnfacaakfaa
