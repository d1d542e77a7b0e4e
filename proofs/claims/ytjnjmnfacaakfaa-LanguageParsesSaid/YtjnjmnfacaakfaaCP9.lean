/-
  LanguageParses: whatever the input, the call returns true, and each argument reads afterwards as it read before.
-/
import Derived.Test.YtjnjmnfacaakfaaCP8
import Derived.Test.YtjnjmnfacaakfaaRows
namespace Go.Proofs.Ytjnjmnfacaakfaa
open Go.Eng
/-- Where the places of the branches lie. -/
structure Lay (ps : List Place) (st : List Int) (b : List (List Piece)) (o : Nat → Nat) : Prop where
  zero : o 0 = 0
  next : ∀ k, k < b.length → o (k + 1) = o k + (b.getD k []).length + 1
  size : ps.length = o b.length
  piece : ∀ k i, k < b.length → i < (b.getD k []).length → PP (ps.getD (o k + i) dPlace) ((b.getD k []).getD i dPiece)
  fin : ∀ k, k < b.length → ps.getD (o k + (b.getD k []).length) dPlace = endP
  start : st.length = b.length ∧ ∀ k, k < b.length → st.getD k 0 = (o k : Int)
theorem rel_getD {ps : List Place} {qs : List Piece} (h : Rel PP ps qs) {i : Nat} (hi : i < qs.length) : PP (ps.getD i dPlace) (qs.getD i dPiece) := by
  rcases h.get i with ⟨_, h2⟩ | ⟨x, y, h1, h2, h3⟩
  · rw [List.getElem?_eq_getElem hi] at h2; cases h2
  · rw [List.getD_eq_getElem?_getD, List.getD_eq_getElem?_getD, h1, h2]; exact h3
theorem lay_of {bp : List (List Place)} {b : List (List Piece)} (h : Rel BR bp b) : ∀ d : Nat, ∃ o : Nat → Nat, o 0 = 0 ∧ (∀ k, k < b.length → o (k + 1) = o k + (b.getD k []).length + 1) ∧ bp.flatten.length = o b.length ∧
    (∀ k i, k < b.length → i < (b.getD k []).length → PP (bp.flatten.getD (o k + i) dPlace) ((b.getD k []).getD i dPiece)) ∧ (∀ k, k < b.length → bp.flatten.getD (o k + (b.getD k []).length) dPlace = endP) ∧
    (offs d bp).length = b.length ∧ ∀ k, k < b.length → (offs d bp).getD k 0 = ((d + o k : Nat) : Int) := by
  induction h with
  | nil => exact fun d => ⟨fun _ => 0, rfl, fun k hk => by simp at hk, rfl, fun k i hk => by simp at hk, fun k hk => by simp at hk, rfl, fun k hk => by simp at hk⟩
  | @cons p q bp b hx _ ih =>
    intro d
    obtain ⟨body, rfl, hR⟩ := hx
    have hl := hR.length
    obtain ⟨o, h1, h2, h3, h4, h5, h6, h7⟩ := ih (d + (body ++ [endP]).length)
    have hbl : (body ++ [endP]).length = q.length + 1 := by simp [hl]
    have gL : ∀ j, j < q.length + 1 → ((body ++ [endP]) ++ bp.flatten).getD j dPlace = (body ++ [endP]).getD j dPlace := fun j hj => by
      rw [List.getD_eq_getElem?_getD, List.getD_eq_getElem?_getD, List.getElem?_append_left (by omega)]
    have gR : ∀ j, ((body ++ [endP]) ++ bp.flatten).getD (q.length + 1 + j) dPlace = bp.flatten.getD j dPlace := fun j => by
      rw [List.getD_eq_getElem?_getD, List.getD_eq_getElem?_getD, List.getElem?_append_right (by omega), hbl]
      congr 2; omega
    refine ⟨fun k => match k with | 0 => 0 | k + 1 => q.length + 1 + o k, rfl, fun k hk => ?_, ?_, fun k i hk hi => ?_, fun k hk => ?_, ?_, fun k hk => ?_⟩
    · cases k with
      | zero => show q.length + 1 + o 0 = 0 + q.length + 1; omega
      | succ k =>
        show q.length + 1 + o (k + 1) = q.length + 1 + o k + (b.getD k []).length + 1
        have := h2 k (by simpa using hk); omega
    · show ((body ++ [endP]) ++ bp.flatten).length = q.length + 1 + o b.length
      rw [List.length_append, hbl, h3]
    · rw [List.flatten_cons]
      cases k with
      | zero =>
        have hi : i < q.length := hi
        show PP (((body ++ [endP]) ++ bp.flatten).getD (0 + i) dPlace) (q.getD i dPiece)
        rw [Nat.zero_add, gL i (by omega), List.getD_eq_getElem?_getD, List.getElem?_append_left (by omega), ← List.getD_eq_getElem?_getD]
        exact rel_getD hR hi
      | succ k =>
        show PP (((body ++ [endP]) ++ bp.flatten).getD (q.length + 1 + o k + i) dPlace) ((b.getD k []).getD i dPiece)
        rw [Nat.add_assoc, gR]
        exact h4 k i (by simpa using hk) hi
    · rw [List.flatten_cons]
      cases k with
      | zero =>
        show ((body ++ [endP]) ++ bp.flatten).getD (0 + q.length) dPlace = endP
        rw [Nat.zero_add, gL q.length (by omega), List.getD_eq_getElem?_getD, List.getElem?_append_right (by omega), hl, Nat.sub_self]; rfl
      | succ k =>
        show ((body ++ [endP]) ++ bp.flatten).getD (q.length + 1 + o k + (b.getD k []).length) dPlace = endP
        rw [Nat.add_assoc, gR]
        exact h5 k (by simpa using hk)
    · show (offs (d + (body ++ [endP]).length) bp).length + 1 = b.length + 1
      rw [h6]
    · cases k with
      | zero => show ((d : Nat) : Int) = ((d + 0 : Nat) : Int); rw [Nat.add_zero]
      | succ k =>
        show (offs (d + (body ++ [endP]).length) bp).getD k 0 = ((d + (q.length + 1 + o k) : Nat) : Int)
        rw [h7 k (by simpa using hk), hbl]
        congr 1; omega
section
variable {ps : List Place} {st : List Int} {b : List (List Piece)} {o : Nat → Nat}
theorem Lay.lt (h : Lay ps st b o) : ∀ {k' k : Nat}, k < k' → k' ≤ b.length → o k + (b.getD k []).length + 1 ≤ o k'
  | 0, k, hk, _ => by omega
  | k' + 1, k, hk, hb => by
    have e := h.next k' (by omega)
    by_cases hkk : k = k'
    · subst hkk; omega
    · have := h.lt (k' := k') (k := k) (by omega) (by omega)
      omega
theorem Lay.uniq (h : Lay ps st b o) {k k' i i' : Nat} (hk : k < b.length) (hk' : k' < b.length) (hi : i ≤ (b.getD k []).length) (hi' : i' ≤ (b.getD k' []).length) (e : o k + i = o k' + i') : k = k' ∧ i = i' := by
  rcases Nat.lt_trichotomy k k' with h1 | h1 | h1
  · have := h.lt h1 (by omega); omega
  · subst h1; exact ⟨rfl, by omega⟩
  · have := h.lt h1 (by omega); omega
theorem Lay.cover (h : Lay ps st b o) : ∀ {m j : Nat}, m ≤ b.length → j < o m → ∃ k i, k < m ∧ i ≤ (b.getD k []).length ∧ j = o k + i
  | 0, j, _, hj => by rw [h.zero] at hj; omega
  | m + 1, j, hm, hj => by
    have e := h.next m (by omega)
    by_cases h1 : j < o m
    · obtain ⟨k, i, a1, a2, a3⟩ := h.cover (m := m) (by omega) h1
      exact ⟨k, i, by omega, a2, a3⟩
    · exact ⟨m, j - o m, by omega, by omega, by omega⟩
theorem Lay.inside (h : Lay ps st b o) {k i : Nat} (hk : k < b.length) (hi : i ≤ (b.getD k []).length) : o k + i < ps.length := by
  have := h.lt (k' := b.length) (k := k) hk (Nat.le_refl _)
  rw [h.size]; omega
/-- The same set of places. -/
def RR (ps : List Place) (b : List (List Piece)) (o : Nat → Nat) (S : Pl) (X : Nat → Nat → Bool) : Prop := (∀ k i, k < b.length → i ≤ (b.getD k []).length → S (o k + i) = X k i) ∧ ∀ j, ps.length ≤ j → S j = false
theorem rowSp_iff {p : List Piece} {S : Nat → Bool} {c : Nat} : ∀ (m j : Nat), rowSp p S c m j = true ↔ ∃ i, i < m ∧ S i = true ∧ (p.getD i dPiece).Set c = true ∧ j = if (p.getD i dPiece).More = 42 then i else i + 1
  | 0, j => by simp [rowSp]
  | m + 1, j => by
    rw [rowSp]
    by_cases hc : S m = true ∧ (p.getD m dPiece).Set c = true
    · rw [if_pos hc]
      unfold upd
      by_cases hj : j = if (p.getD m dPiece).More = 42 then m else m + 1
      · rw [if_pos hj]; exact ⟨fun _ => ⟨m, by omega, hc.1, hc.2, hj⟩, fun _ => rfl⟩
      · rw [if_neg hj, rowSp_iff m j]
        constructor
        · rintro ⟨i, h1, h2⟩; exact ⟨i, by omega, h2⟩
        · rintro ⟨i, h1, h2, h3, h4⟩
          by_cases hi : i = m
          · subst hi; exact absurd h4 hj
          · exact ⟨i, by omega, h2, h3, h4⟩
    · rw [if_neg hc, rowSp_iff m j]
      constructor
      · rintro ⟨i, h1, h2⟩; exact ⟨i, by omega, h2⟩
      · rintro ⟨i, h1, h2, h3, h4⟩
        by_cases hi : i = m
        · subst hi; exact absurd ⟨h2, h3⟩ hc
        · exact ⟨i, by omega, h2, h3, h4⟩
theorem rowCl_iff {p : List Piece} {S : Nat → Bool} : ∀ (n j : Nat), rowCl p S n j = true ↔ ∃ i, i ≤ j ∧ S i = true ∧ ∀ k, i ≤ k → k < j → k < n ∧ (p.getD k dPiece).More ≠ 0
  | 0, j => by
    constructor
    · intro h
      exact ⟨j, Nat.le_refl _, h, fun k h1 h2 => by omega⟩
    · rintro ⟨i, h1, h2, h3⟩
      have : i = j := by
        by_cases h : i < j
        · have := (h3 i (Nat.le_refl _) h).1; omega
        · omega
      subst this
      exact h2
  | n + 1, j => by
    unfold rowCl
    split
    · rename_i hc
      obtain ⟨i0, a1, a2, a3⟩ := (rowCl_iff n n).1 hc.1
      unfold upd
      by_cases hj : j = n + 1
      · rw [if_pos hj]
        refine ⟨fun _ => ⟨i0, by omega, a2, fun k h1 h2 => ?_⟩, fun _ => rfl⟩
        by_cases hk : k = n
        · subst hk; exact ⟨by omega, hc.2⟩
        · have := a3 k h1 (by omega); exact ⟨by omega, this.2⟩
      · rw [if_neg hj, rowCl_iff n j]
        constructor
        · rintro ⟨i, h1, h2, h3⟩
          exact ⟨i, h1, h2, fun k k1 k2 => ⟨by have := (h3 k k1 k2).1; omega, (h3 k k1 k2).2⟩⟩
        · rintro ⟨i, h1, h2, h3⟩
          refine ⟨i, h1, h2, fun k k1 k2 => ⟨?_, (h3 k k1 k2).2⟩⟩
          have := (h3 k k1 k2).1
          have := (h3 (j - 1) (by omega) (by omega)).1
          omega
    · rename_i hc
      rw [rowCl_iff n j]
      constructor
      · rintro ⟨i, h1, h2, h3⟩
        exact ⟨i, h1, h2, fun k k1 k2 => ⟨by have := (h3 k k1 k2).1; omega, (h3 k k1 k2).2⟩⟩
      · rintro ⟨i, h1, h2, h3⟩
        refine ⟨i, h1, h2, fun k k1 k2 => ⟨?_, (h3 k k1 k2).2⟩⟩
        have q1 := (h3 k k1 k2).1
        by_cases hk : k = n
        · exfalso
          subst hk
          refine hc ⟨(rowCl_iff k k).2 ⟨i, k1, h2, fun m m1 m2 => ⟨m2, (h3 m m1 (by omega)).2⟩⟩, (h3 k k1 k2).2⟩
        · omega
theorem endP_bit (c : Int) (h : 0 ≤ c) : bitOf endP.fSet c = false := by
  obtain ⟨n, rfl⟩ := Int.eq_ofNat_of_zero_le h
  exact bit0 n
theorem rr_sp (h : Lay ps st b o) {S : Pl} {X : Nat → Nat → Bool} {c : Nat} (hc : c < 37) (hR : RR ps b o S X) : RR ps b o (sp ps S c ps.length) (spX b X c b.length 0) := by
  have key : ∀ j, sp ps S c ps.length j = true → ∃ k i, k < b.length ∧ i < (b.getD k []).length ∧ X k i = true ∧ ((b.getD k []).getD i dPiece).Set c = true ∧ j = o k + (if ((b.getD k []).getD i dPiece).More = 42 then i else i + 1) := fun j hj => by
    obtain ⟨j0, a1, a2, a3, a4⟩ := (sp_iff _ _).1 hj
    obtain ⟨k, i, b1, b2, rfl⟩ := h.cover (m := b.length) (Nat.le_refl _) (by rw [← h.size]; exact a1)
    by_cases hi : i = (b.getD k []).length
    · subst hi
      rw [h.fin k b1, endP_bit _ (by omega)] at a3
      cases a3
    · obtain ⟨p1, p2, p3, p4⟩ := h.piece k i b1 (by omega)
      refine ⟨k, i, b1, by omega, by rw [← hR.1 k i b1 b2]; exact a2, by rw [← p4 c hc]; exact a3, ?_⟩
      rw [a4]
      unfold nxt
      rw [p2]
      split <;> omega
  refine ⟨fun k i hk hi => ?_, fun j hj => ?_⟩
  · have e : spX b X c b.length 0 k = rowSp (b.getD k []) (X k) c (b.getD k []).length := by unfold spX; rw [if_pos hk]
    rw [e, Bool.eq_iff_iff, rowSp_iff]
    constructor
    · intro hj
      obtain ⟨k', i', a1, a2, a3, a4, a5⟩ := key _ hj
      obtain ⟨rfl, rfl⟩ := h.uniq hk a1 hi (by split <;> omega) a5
      exact ⟨i', a2, a3, a4, rfl⟩
    · rintro ⟨i', a1, a2, a3, rfl⟩
      obtain ⟨p1, p2, p3, p4⟩ := h.piece k i' hk a1
      refine (sp_iff _ _).2 ⟨o k + i', h.inside hk (by omega), by rw [hR.1 k i' hk (by omega)]; exact a2, by rw [p4 c hc]; exact a3, ?_⟩
      unfold nxt
      rw [p2]
      split <;> omega
  · cases hs : sp ps S c ps.length j with
    | false => rfl
    | true =>
      obtain ⟨k', i', a1, a2, a3, a4, a5⟩ := key _ hs
      have : (if ((b.getD k' []).getD i' dPiece).More = 42 then i' else i' + 1) ≤ (b.getD k' []).length := by split <;> omega
      have := h.inside a1 this
      omega
theorem rr_cl (h : Lay ps st b o) {S : Pl} {X : Nat → Nat → Bool} (hR : RR ps b o S X) : RR ps b o (closedS ps S) (closedX b X) := by
  refine ⟨fun k i hk hi => ?_, fun j hj => ?_⟩
  · have e : closedX b X k = rowCl (b.getD k []) (X k) (b.getD k []).length := by unfold closedX clX; rw [if_pos hk]
    rw [e, Bool.eq_iff_iff, closedS_iff, rowCl_iff]
    constructor
    · rintro ⟨j0, a1, a2, a3⟩
      have hin := h.inside hk hi
      obtain ⟨k0, i0, b1, b2, rfl⟩ := h.cover (m := b.length) (j := j0) (Nat.le_refl _) (by rw [← h.size]; omega)
      rcases Nat.lt_trichotomy k0 k with h1 | h1 | h1
      · have hl := h.lt h1 (by omega)
        have := (a3 (o k0 + (b.getD k0 []).length) (by omega) (by omega)).2
        rw [h.fin k0 b1] at this
        exact absurd rfl this
      · subst h1
        refine ⟨i0, by omega, by rw [← hR.1 k0 i0 hk b2]; exact a2, fun m m1 m2 => ?_⟩
        obtain ⟨p1, p2, p3, p4⟩ := h.piece k0 m hk (by omega)
        have := (a3 (o k0 + m) (by omega) (by omega)).2
        exact ⟨by omega, by rw [← p2]; exact this⟩
      · have hl := h.lt h1 (by omega)
        omega
    · rintro ⟨i0, a1, a2, a3⟩
      refine ⟨o k + i0, by omega, by rw [hR.1 k i0 hk (by omega)]; exact a2, fun m m1 m2 => ?_⟩
      have hin := h.inside hk hi
      obtain ⟨q1, q2⟩ := a3 (m - o k) (by omega) (by omega)
      obtain ⟨p1, p2, p3, p4⟩ := h.piece k (m - o k) hk q1
      rw [show o k + (m - o k) = m by omega] at p2
      exact ⟨by omega, by rw [p2]; exact q2⟩
  · cases hs : closedS ps S j with
    | false => rfl
    | true =>
      obtain ⟨j0, a1, a2, a3⟩ := (closedS_iff j).1 hs
      by_cases hj0 : ps.length ≤ j0
      · rw [hR.2 j0 hj0] at a2; cases a2
      · obtain ⟨k0, i0, b1, b2, rfl⟩ := h.cover (m := b.length) (j := j0) (Nat.le_refl _) (by rw [← h.size]; omega)
        have hin := h.inside b1 (Nat.le_refl _)
        have := (a3 (o k0 + (b.getD k0 []).length) (by omega) (by omega)).2
        rw [h.fin k0 b1] at this
        exact absurd rfl this
theorem accX_iff {X : Nat → Nat → Bool} : ∀ m, accX b X m = true ↔ ∃ k, k < m ∧ X k (b.getD k []).length = true
  | 0 => by simp [accX]
  | m + 1 => by
    unfold accX
    rw [Bool.or_eq_true, accX_iff m]
    constructor
    · rintro (⟨k, h1, h2⟩ | h)
      · exact ⟨k, by omega, h2⟩
      · exact ⟨m, by omega, h⟩
    · rintro ⟨k, h1, h2⟩
      by_cases hk : k = m
      · subst hk; exact .inr h2
      · exact .inl ⟨k, by omega, h2⟩
theorem rr_acc (h : Lay ps st b o) {S : Pl} {X : Nat → Nat → Bool} (hR : RR ps b o S X) : acceptS ps S = accX b X b.length := by
  unfold acceptS
  rw [Bool.eq_iff_iff, acc_iff, accX_iff]
  constructor
  · rintro ⟨j, a1, a2, a3⟩
    obtain ⟨k, i, b1, b2, rfl⟩ := h.cover (m := b.length) (Nat.le_refl _) (by rw [← h.size]; exact a1)
    by_cases hi : i = (b.getD k []).length
    · subst hi
      exact ⟨k, b1, by rw [← hR.1 k _ b1 (Nat.le_refl _)]; exact a3⟩
    · obtain ⟨p1, _⟩ := h.piece k i b1 (by omega)
      rw [p1] at a2; cases a2
  · rintro ⟨k, a1, a2⟩
    exact ⟨_, h.inside a1 (Nat.le_refl _), by rw [h.fin k a1]; rfl, by rw [hR.1 k _ a1 (Nat.le_refl _)]; exact a2⟩
theorem key_iff {S T : Pl} : keyS S = keyS T ↔ ∀ i, i < 128 → S i = T i := by
  constructor
  · intro e i hi
    have e0 : setW S 0 = setW T 0 := congrArg (fun l => l.getD 0 0) e
    have e1 : setW S 1 = setW T 1 := congrArg (fun l => l.getD 1 0) e
    have e0 := wordN_inj (Int.ofNat.inj e0)
    have e1 := wordN_inj (Int.ofNat.inj e1)
    by_cases hj : i < 64
    · have := e0 i hj
      simpa using this
    · have : S (64 * 1 + (i - 64)) = T (64 * 1 + (i - 64)) := e1 (i - 64) (by omega)
      rwa [show 64 * 1 + (i - 64) = i by omega] at this
  · intro h
    have key : ∀ q, q < 2 → setW S q = setW T q := by
      intro q hq
      unfold setW
      congr 1
      exact wordN_congr fun i hi => by rw [h _ (by omega)]
    unfold keyS
    rw [key 0 (by omega), key 1 (by omega)]
theorem rr_same (h : Lay ps st b o) (hp : ps.length ≤ 128) {S T : Pl} {X Y : Nat → Nat → Bool} (hS : RR ps b o S X) (hT : RR ps b o T Y) : keyS S = keyS T ↔ sameP (GL b.length (lenB b) X) (GL b.length (lenB b) Y) := by
  rw [key_iff]
  unfold sameP
  rw [GL_len]
  constructor
  · intro e k hk i hi
    rw [GL_rlen hk] at hi
    rw [GL_get hk hi, GL_get hk hi, ← hS.1 k i hk (by unfold lenB at hi; omega), ← hT.1 k i hk (by unfold lenB at hi; omega)]
    have := h.inside hk (show i ≤ _ by unfold lenB at hi; omega)
    exact e _ (by omega)
  · intro e j hj
    by_cases hjn : j < ps.length
    · obtain ⟨k, i, b1, b2, rfl⟩ := h.cover (m := b.length) (Nat.le_refl _) (by rw [← h.size]; exact hjn)
      have := e k b1 i (by rw [GL_rlen b1]; unfold lenB; omega)
      rw [GL_get b1 (by unfold lenB; omega), GL_get b1 (by unfold lenB; omega)] at this
      rw [hS.1 k i b1 b2, hT.1 k i b1 b2, this]
    · rw [hS.2 j (by omega), hT.2 j (by omega)]
theorem rr_none (h : Lay ps st b o) (hp : ps.length ≤ 128) {S : Pl} {X : Nat → Nat → Bool} (hS : RR ps b o S X) : keyS S = [0, 0] ↔ noneP (GL b.length (lenB b) X) := by
  rw [← keyS_none, key_iff]
  unfold noneP
  rw [GL_len]
  constructor
  · intro e k hk i hi
    rw [GL_rlen hk] at hi
    rw [GL_get hk hi, ← hS.1 k i hk (by unfold lenB at hi; omega)]
    have := h.inside hk (show i ≤ _ by unfold lenB at hi; omega)
    exact e _ (by omega)
  · intro e j hj
    by_cases hjn : j < ps.length
    · obtain ⟨k, i, b1, b2, rfl⟩ := h.cover (m := b.length) (Nat.le_refl _) (by rw [← h.size]; exact hjn)
      have := e k b1 i (by rw [GL_rlen b1]; unfold lenB; omega)
      rw [GL_get b1 (by unfold lenB; omega)] at this
      rw [hS.1 k i b1 b2, this]; rfl
    · rw [hS.2 j (by omega)]; rfl
theorem decide_iff {p q : Prop} [Decidable p] [Decidable q] (h : p ↔ q) : decide p = decide q := by
  by_cases hp : p
  · rw [decide_eq_true hp, decide_eq_true (h.1 hp)]
  · rw [decide_eq_false hp, decide_eq_false (fun hq => hp (h.2 hq))]
theorem side_R (h : Lay ps st b o) (hp : ps.length ≤ 127) : Side (autP ps) (autR b) (RR ps b o) where
  step := fun S X c hc hR => rr_cl h (rr_sp h hc hR)
  none := fun S X hR => decide_iff (rr_none h (by omega) hR)
  acc := fun S X hR => rr_acc h hR
  same := fun S X S' X' hR hR' => decide_iff (rr_same h (by omega) hR hR')
theorem rr_start (h : Lay ps st b o) : RR ps b o (closedS ps (startAt st st.length)) (startX b) := by
  refine rr_cl h ⟨fun k i hk hi => ?_, fun j hj => ?_⟩
  · have e : stX b.length k i = decide (i = 0) := by
      unfold stX
      rw [if_pos hk]
      unfold upd
      by_cases h0 : i = 0
      · rw [if_pos h0, decide_eq_true h0]
      · rw [if_neg h0, decide_eq_false h0]
    rw [e, Bool.eq_iff_iff, startAt_iff, decide_eq_true_eq]
    constructor
    · rintro ⟨k', a1, a2⟩
      rw [h.start.1] at a1
      rw [h.start.2 k' a1, Int.toNat_natCast] at a2
      exact (h.uniq hk a1 hi (Nat.zero_le _) (by omega)).2
    · rintro rfl
      exact ⟨k, by rw [h.start.1]; exact hk, by rw [h.start.2 k hk]; simp⟩
  · cases hs : startAt st st.length j with
    | false => rfl
    | true =>
      obtain ⟨k', a1, a2⟩ := (startAt_iff _ _).1 hs
      rw [h.start.1] at a1
      rw [h.start.2 k' a1, Int.toNat_natCast] at a2
      have := h.inside a1 (Nat.zero_le _)
      omega
end
theorem refLang_eq (s : List UInt8) : refLang s = langS s := by
  unfold refLang langS
  by_cases h64 : 64 < s.length
  · rw [if_pos h64, if_pos h64]
  · rw [if_neg h64, if_neg h64]
    obtain ⟨g1, g2, g3⟩ := parseS_bound (s := s)
    rcases branchesR_B s with ⟨h1, h2⟩ | ⟨b, bp, h1, h2, h3⟩
    · rw [h1, parseS_B, h2]; rfl
    · obtain ⟨o, a1, a2, a3, a4, a5, a6, a7⟩ := lay_of h3 0
      have e1 : plOf (parseS s) = bp.flatten := by rw [parseS_B, h2]; rfl
      have e2 : stOf (parseS s) = offs 0 bp := by rw [parseS_B, h2]; rfl
      have hL : Lay (plOf (parseS s)) (stOf (parseS s)) b o := by
        rw [e1, e2]
        exact ⟨a1, a2, a3, a4, a5, a6, fun k hk => by rw [a7 k hk, Nat.zero_add]⟩
      have hs : (parseS s).isSome = true := by rw [parseS_B, h2]; rfl
      rw [h1, hs]
      simp only [Option.isSome_some, Bool.true_eq_false, if_false, brOf]
      rw [bfs_G, show startS (parseS s) = closedS (plOf (parseS s)) (startAt (stOf (parseS s)) (stOf (parseS s)).length) from rfl, bfsG_side (side_R hL (by omega)) (.cons (rr_start hL) .nil)]
      rfl
end Go.Proofs.Ytjnjmnfacaakfaa
namespace Go.Proofs.Ytjnjmnfacaakfaa
open Go.Eng
def madeP (l : List Int) : List UInt8 := patS (l.take 24)
def atP (l : List Int) (q : Nat → Int) : Nat := (q 0).toNat % (madeP l).length
def chB (q : Nat → Int) : UInt8 := ([97, 98, 45, 48, 91, 93, 124, 63, 43, 42, 120] : List UInt8).getD ((q 1).toNat % 11) 0
def oddP (l : List Int) (q : Nat → Int) : List UInt8 := if 0 < (madeP l).length then (madeP l).take (atP l q) ++ [chB q] ++ (madeP l).drop (atP l q + 1) else madeP l
theorem atP_lt {l : List Int} {q : Nat → Int} (h : (0 : Int) < (((madeP l).length : Nat) : Int)) : atP l q < (madeP l).length := Nat.mod_lt _ (by omega)
theorem rem_nat {a : Int} {n : Nat} (h : 0 ≤ a) : a.tmod (n : Int) = ((a.toNat % n : Nat) : Int) := by
  rw [Int.tmod_eq_emod_of_nonneg h]
  conv => lhs; rw [← Int.toNat_of_nonneg h]
  rfl
theorem madeP_len (l : List Int) : (madeP l).length ≤ 56 := by
  have := patS_len (l.take 24)
  unfold madeP; omega
theorem oddP_len (l : List Int) (q : Nat → Int) : (oddP l q).length ≤ 57 := by
  have := madeP_len l
  unfold oddP
  split
  · simp only [List.length_append, List.length_take, List.length_drop, List.length_cons, List.length_nil]; omega
  · omega
theorem both_len (l : List Int) (q : Nat → Int) : (oddP l q ++ madeP l).length ≤ 113 := by
  have h1 := madeP_len l
  have h2 := oddP_len l q
  rw [List.length_append]; omega
theorem xs4_len {a b c d : List UInt8} {n : Nat} (ha : a.length ≤ n) (hb : b.length ≤ n) (hc : c.length ≤ n) (hd : d.length ≤ n) : ∀ k, ([a, b, c, d].getD k []).length ≤ n
  | 0 => ha
  | 1 => hb
  | 2 => hc
  | 3 => hd
  | _ + 4 => Nat.zero_le _
def xP (l : List Int) (q : Nat → Int) (s : List UInt8) (k : Nat) : List UInt8 := [madeP l, oddP l q, oddP l q ++ madeP l, s.take (min s.length 70)].getD k []
theorem xP_len (l : List Int) (q : Nat → Int) (s : List UInt8) (k : Nat) : (xP l q s k).length ≤ 113 := by
  have h1 := madeP_len l
  have h2 := oddP_len l q
  exact xs4_len (by omega) (by omega) (both_len l q) (by rw [List.length_take]; omega) k
theorem str_one (b : UInt8) : ([(b.toNat : Int)]).length = [b].length ∧ ∀ j, j < ([(b.toNat : Int)]).length → (eK .u8) ([(b.toNat : Int)].getD j 0) = PV.v (.int .u8 (([b].getD j 0).toNat : Int)) :=
  ⟨rfl, fun j hj => by
    have hj : j < 1 := hj
    obtain rfl : j = 0 := by omega
    rfl⟩
theorem langS_rows (s : List UInt8) : (langS s).1.Next.length ≤ 16 ∧ ∀ j, j < (langS s).1.Next.length → ((langS s).1.Next.getD j []).length = 37 := by
  by_cases h : (langS s).2 = 0
  · obtain ⟨f1, f2, f3, f4⟩ := check_facts (langS_check (s := s) (l := (langS s).1) (Prod.ext rfl h))
    exact ⟨by omega, fun j hj => (f4 j (by omega)).1⟩
  · have e : (langS s).1 = dLang := by
      unfold langS at h ⊢
      split
      · rfl
      · split
        · rfl
        · split
          · rename_i h2; simp_all
          · rfl
    rw [e]
    exact ⟨by simp [dLang], fun j hj => by simp [dLang] at hj⟩
theorem parses_ok (l : List Int) (q : Nat → Int) (s : List UInt8) (hq : ∀ i, i < 2 → 0 ≤ q i ∧ q i < 256) (hb0 : s.length < 4611686018427387904) : Pure Try.prog 3 [(eL eI 1 0) l, (eA (eK .u8) 1 2) q, .s s] (vbool true) := by
  have hml := madeP_len l
  have hq0 := hq 0 (by omega)
  have hq1 := hq 1 (by omega)
  have hol := oddP_len l q
  refine pure_of (fn := Try.f3) Try.func3 rfl rfl fun F_ W0_ => ?_
  refine tr_seq ?_
  refine tr_r (vc := []) (E' := [(0, none, .p ((eL eI 1 0) l)), (2, none, vstr s), (4, none, .ref 0 [])]) (H' := [.box (.p ((eA (eK .u8) 1 2) q))]) [] [] [0, 2, 4] (by kernel_rfl) ?_ ?_
  · exact trivial
  refine tr_then (tr_seq ?_)
  refine tr_r (vc := [Pure Try.prog 8 [] (vbool true)]) (E' := [(0, none, .p ((eL eI 1 0) l)), (2, none, vstr s), (4, none, .ref 0 []), (7, none, vbool true)]) (H' := [.box (.p ((eA (eK .u8) 1 2) q))]) [] [(0, vbool true)] [0, 2, 4, 7] (by kernel_rfl) ?_ ?_
  · refine al ?_ (trivial)
    · exact sanity_ok
  refine tr_then (tr_seq ?_)
  refine tr_r (vc := [Pure Try.prog 10 [(eL eI 1 0) l] (.p ((eL eI 1 0) (l.take 24))), Pure Try.prog 9 [(eL eI 1 0) (l.take 24)] (vstr (patS (l.take 24))), (patS (l.take 24)) = (madeP l)]) (E' := [(2, none, vstr s), (4, none, .ref 0 []), (7, none, vbool true), (8, none, vstr (madeP l))]) (H' := [.box (.p ((eA (eK .u8) 1 2) q))]) [(3, vstr (madeP l))] [(1, .p ((eL eI 1 0) (l.take 24))), (2, vstr (patS (l.take 24)))] [2, 4, 7, 8] (by kernel_rfl) ?_ ?_
  · refine al ?_ (al ?_ (al ?_ (trivial)))
    · exact cut_ok _
    · exact pattern_ok _ (by (simp_all; omega))
    · rfl
  refine tr_then (tr_seq ?_)
  refine tr_r (vc := []) (E' := [(2, none, vstr s), (4, none, .ref 0 []), (7, none, vbool true), (8, none, vstr (madeP l)), (9, none, vstr (madeP l))]) (H' := [.box (.p ((eA (eK .u8) 1 2) q))]) [] [] [2, 4, 7, 8, 9] (by kernel_rfl) ?_ ?_
  · exact trivial
  refine tr_then ?_
  refine tr_join (α := Unit) (fun z : Unit => [(2, none, vstr s), (7, none, vbool true), (8, none, vstr (madeP l)), (9, none, vstr (oddP l q))]) (fun z : Unit => [.box (.p ((eA (eK .u8) 1 2) q))]) (fun z : Unit => True) ?_ ?_
  · intro z hz
    refine tr_seq ?_
    refine tr_seq ?_
    refine tr_r (vc := [(((oddP l q).length + (madeP l).length : Nat) : Int) ≤ 9223372036854775807, (min ((s.length : Nat) : Int) 70) = (((min s.length 70) : Nat) : Int), (0 : Int) ≤ 0, 0 ≤ (((min s.length 70) : Nat) : Int), (((min s.length 70) : Nat) : Int) ≤ (s.length : Int), ((s.drop 0).take ((min s.length 70) - 0)) = (s.take (min s.length 70)), ∀ j, j < 4 → ([.s (madeP l), .s (oddP l q), .s ((oddP l q) ++ (madeP l)), .s (s.take (min s.length 70))] : List PV).getD j default = (fun i => eS (([(madeP l), (oddP l q), ((oddP l q) ++ (madeP l)), (s.take (min s.length 70))]).getD i [])) j]) (E' := [(7, none, vbool true), (59, none, .p ((eL eS 1 []) ([(madeP l), (oddP l q), ((oddP l q) ++ (madeP l)), (s.take (min s.length 70))]))), (60, none, vint .i64 ((([(madeP l), (oddP l q), ((oddP l q) ++ (madeP l)), (s.take (min s.length 70))]).length : Nat) : Int)), (61, none, vint .i64 0)]) (H' := [.box (.p ((eA (eK .u8) 1 2) q))]) [(8, vint .i64 (((min s.length 70) : Nat) : Int)), (9, vstr (s.take (min s.length 70)))] [(10, .p ((eL eS 1 []) ([(madeP l), (oddP l q), ((oddP l q) ++ (madeP l)), (s.take (min s.length 70))])))] [7, 59, 60, 61] (by kernel_rfl) ?_ ?_
    · refine al ?_ (al ?_ (al ?_ (al ?_ (al ?_ (al ?_ (al ?_ (trivial)))))))
      · omega
      · omega
      · omega
      · omega
      · omega
      · rfl
      · exact lit_pv (e := eS) (d := []) (l := [(madeP l), (oddP l q), ((oddP l q) ++ (madeP l)), (s.take (min s.length 70))])
    refine tr_then ?_
    refine tr_block ?_
    refine tr_loop (α := Nat) (fun z : Nat => (fun (k : Nat) => [(7, none, vbool true), (59, none, .p ((eL eS 1 []) ([(madeP l), (oddP l q), ((oddP l q) ++ (madeP l)), (s.take (min s.length 70))]))), (60, none, vint .i64 ((([(madeP l), (oddP l q), ((oddP l q) ++ (madeP l)), (s.take (min s.length 70))]).length : Nat) : Int)), (61, none, vint .i64 ((k : Nat) : Int))]) z) (fun z : Nat => (fun (k : Nat) => [.box (.p ((eA (eK .u8) 1 2) q))]) z) (fun z : Nat => (fun (k : Nat) => (k ≤ 4)) z) (fun z : Nat => (fun (k : Nat) => 4 - k) z) 0 ?_ ?_ ?_
    · show (0 ≤ 4)
      · omega
    · intro A_ W_ hS
      replace hS := sl_set (d := vint .i64 0) 61 (vint .i64 ((0 : Nat) : Int)) (by kernel_rfl) (eqD_int (by omega)) hS
      exact sl_weak (vc := []) [0] [7, 59, 60, 61] (by kernel_rfl) trivial hS
    · intro z hz
      revert z; intro k hz
      have hz : (k ≤ 4) := hz
      have hi0_0 := hz
      have hx := xP_len l q s k
      have hr := langS_rows (xP l q s k)
      have hl := langS_len (xP l q s k)
      refine tr_seq ?_
      refine tr_r (vc := []) (E' := [(7, none, vbool true), (59, none, .p ((eL eS 1 []) ([(madeP l), (oddP l q), ((oddP l q) ++ (madeP l)), (s.take (min s.length 70))]))), (60, none, vint .i64 ((([(madeP l), (oddP l q), ((oddP l q) ++ (madeP l)), (s.take (min s.length 70))]).length : Nat) : Int)), (61, none, vint .i64 ((k : Nat) : Int)), (62, none, vbool (decide (((k : Nat) : Int) < ((([(madeP l), (oddP l q), ((oddP l q) ++ (madeP l)), (s.take (min s.length 70))]).length : Nat) : Int))))]) (H' := [.box (.p ((eA (eK .u8) 1 2) q))]) [] [] [7, 59, 60, 61, 62] (by kernel_rfl) ?_ ?_
      · exact trivial
      refine tr_then (tr_seq ?_)
      refine tr_condP (decide (((k : Nat) : Int) < ((([(madeP l), (oddP l q), ((oddP l q) ++ (madeP l)), (s.take (min s.length 70))]).length : Nat) : Int))) (((k : Nat) : Int) < ((([(madeP l), (oddP l q), ((oddP l q) ++ (madeP l)), (s.take (min s.length 70))]).length : Nat) : Int)) (by simp) (by kernel_rfl) (fun hc1 => ?_) (fun hc1 => ?_)
      · skip
        refine tr_skip ?_
        refine tr_then (tr_seq ?_)
        refine tr_block ?_
        refine tr_seq ?_
        refine tr_r (vc := [(0 : Int) ≤ ((k : Nat) : Int), ((k : Nat) : Int) < (([(madeP l), (oddP l q), ((oddP l q) ++ (madeP l)), (s.take (min s.length 70))]).length : Int), (([(madeP l), (oddP l q), ((oddP l q) ++ (madeP l)), (s.take (min s.length 70))]).getD k []) = (xP l q s k)]) (E' := [(7, none, vbool true), (13, none, vstr (xP l q s k)), (59, none, .p ((eL eS 1 []) ([(madeP l), (oddP l q), ((oddP l q) ++ (madeP l)), (s.take (min s.length 70))]))), (60, none, vint .i64 ((([(madeP l), (oddP l q), ((oddP l q) ++ (madeP l)), (s.take (min s.length 70))]).length : Nat) : Int)), (61, none, vint .i64 ((k : Nat) : Int))]) (H' := [.box (.p ((eA (eK .u8) 1 2) q))]) [(2, vstr (xP l q s k))] [] [7, 13, 59, 60, 61] (by kernel_rfl) ?_ ?_
        · refine al ?_ (al ?_ (al ?_ (trivial)))
          · omega
          · omega
          · rfl
        refine tr_then (tr_seq ?_)
        refine tr_r (vc := [Pure Try.prog 11 [.s (xP l q s k)] (.tup [.p (eLang ((langS (xP l q s k)).1)), vint .i64 ((langS (xP l q s k)).2)])]) (E' := [(7, none, vbool true), (13, none, vstr (xP l q s k)), (14, none, .ref 1 []), (15, none, vint .i64 ((langS (xP l q s k)).2)), (59, none, .p ((eL eS 1 []) ([(madeP l), (oddP l q), ((oddP l q) ++ (madeP l)), (s.take (min s.length 70))]))), (60, none, vint .i64 ((([(madeP l), (oddP l q), ((oddP l q) ++ (madeP l)), (s.take (min s.length 70))]).length : Nat) : Int)), (61, none, vint .i64 ((k : Nat) : Int))]) (H' := [.box (.p ((eA (eK .u8) 1 2) q)), .box (.p (eLang ((langS (xP l q s k)).1)))]) [] [(1, .tup [.p (eLang ((langS (xP l q s k)).1)), vint .i64 ((langS (xP l q s k)).2)])] [7, 13, 14, 15, 59, 60, 61] (by kernel_rfl) ?_ ?_
        · refine al ?_ (trivial)
          · exact Parse_ok _ (by omega)
        refine tr_then (tr_seq ?_)
        refine tr_r (vc := [Pure Try.prog 12 [.s (xP l q s k)] (.tup [.p (eLang ((langS (xP l q s k)).1)), vint .i64 ((langS (xP l q s k)).2)])]) (E' := [(7, none, vbool true), (14, none, .ref 1 []), (15, none, vint .i64 ((langS (xP l q s k)).2)), (16, none, .ref 2 []), (17, none, vint .i64 ((langS (xP l q s k)).2)), (59, none, .p ((eL eS 1 []) ([(madeP l), (oddP l q), ((oddP l q) ++ (madeP l)), (s.take (min s.length 70))]))), (60, none, vint .i64 ((([(madeP l), (oddP l q), ((oddP l q) ++ (madeP l)), (s.take (min s.length 70))]).length : Nat) : Int)), (61, none, vint .i64 ((k : Nat) : Int))]) (H' := [.box (.p ((eA (eK .u8) 1 2) q)), .box (.p (eLang ((langS (xP l q s k)).1))), .box (.p (eLang ((langS (xP l q s k)).1)))]) [] [(1, .tup [.p (eLang ((langS (xP l q s k)).1)), vint .i64 ((langS (xP l q s k)).2)])] [7, 14, 15, 16, 17, 59, 60, 61] (by kernel_rfl) ?_ ?_
        · refine al ?_ (trivial)
          · have h_ := refParseB_ok (xP l q s k) _ (by omega) rfl; rw [refLang_eq] at h_; exact h_
        refine tr_then (tr_seq ?_)
        refine tr_r (vc := [(!(((langS (xP l q s k)).2) != ((langS (xP l q s k)).2))) = true → (!(((langS (xP l q s k)).2) != ((langS (xP l q s k)).2))) = true, (!(((langS (xP l q s k)).2) != ((langS (xP l q s k)).2))) = true → (!(((langS (xP l q s k)).2) != ((langS (xP l q s k)).2))) = true, (!(((langS (xP l q s k)).2) != ((langS (xP l q s k)).2))) = true → (Pure Try.prog 13 [eLang ((langS (xP l q s k)).1), eLang ((langS (xP l q s k)).1)] (vbool (decide (((langS (xP l q s k)).1) = ((langS (xP l q s k)).1))))), (!(((langS (xP l q s k)).2) != ((langS (xP l q s k)).2))) = true → (!(((langS (xP l q s k)).2) != ((langS (xP l q s k)).2))) = true, (!(((langS (xP l q s k)).2) != ((langS (xP l q s k)).2))) = true → (!(((langS (xP l q s k)).2) != ((langS (xP l q s k)).2))) = true]) (E' := [(7, none, vbool true), (59, none, .p ((eL eS 1 []) ([(madeP l), (oddP l q), ((oddP l q) ++ (madeP l)), (s.take (min s.length 70))]))), (60, none, vint .i64 ((([(madeP l), (oddP l q), ((oddP l q) ++ (madeP l)), (s.take (min s.length 70))]).length : Nat) : Int)), (61, none, vint .i64 ((k : Nat) : Int)), (83, none, vbool ((((langS (xP l q s k)).2) != ((langS (xP l q s k)).2)) || (!(decide (((langS (xP l q s k)).1) = ((langS (xP l q s k)).1))))))]) (H' := [.box (.p ((eA (eK .u8) 1 2) q)), .box (.p (eLang ((langS (xP l q s k)).1))), .box (.p (eLang ((langS (xP l q s k)).1)))]) [] [(6, vbool (decide (((langS (xP l q s k)).1) = ((langS (xP l q s k)).1))))] [7, 59, 60, 61, 83] (by kernel_rfl) ?_ ?_
        · refine al ?_ (al ?_ (al ?_ (al ?_ (al ?_ (trivial)))))
          · exact id
          · exact id
          · intro _; exact same_ok _ _ (by omega) (by omega) (fun j hj => by have := hr.2 j hj; omega)
          · exact id
          · exact id
        refine tr_then ?_
        refine tr_condP ((((langS (xP l q s k)).2) != ((langS (xP l q s k)).2)) || (!(decide (((langS (xP l q s k)).1) = ((langS (xP l q s k)).1))))) ((((langS (xP l q s k)).2) ≠ ((langS (xP l q s k)).2)) ∨ ((decide (((langS (xP l q s k)).1) = ((langS (xP l q s k)).1))) = false)) (by simp) (by kernel_rfl) (fun hc2 => ?_) (fun hc2 => ?_)
        · exact absurd hc2 (by simp)
        · skip
          refine tr_skip ?_
          refine in_n ?_
          refine tr_then ?_
          refine tr_r (vc := [(IntKind.wrap .i64 (((k : Nat) : Int) + 1)) = (((k + 1) : Nat) : Int)]) (E' := [(7, none, vbool true), (59, none, .p ((eL eS 1 []) ([(madeP l), (oddP l q), ((oddP l q) ++ (madeP l)), (s.take (min s.length 70))]))), (60, none, vint .i64 ((([(madeP l), (oddP l q), ((oddP l q) ++ (madeP l)), (s.take (min s.length 70))]).length : Nat) : Int)), (61, none, vint .i64 (((k + 1) : Nat) : Int))]) (H' := [.box (.p ((eA (eK .u8) 1 2) q)), .box (.p (eLang ((langS (xP l q s k)).1))), .box (.p (eLang ((langS (xP l q s k)).1)))]) [(0, vint .i64 (((k + 1) : Nat) : Int))] [] [7, 59, 60, 61] (by kernel_rfl) ?_ ?_
          · refine al ?_ (trivial)
            · exact wr64 (by omega) (by omega) (by omega)
          refine lp_end (k + 1) ?_ ?_ ?_
          · show ((k + 1) ≤ 4)
            · (simp_all; omega)
          · show 4 - (k + 1) < 4 - k
            simp only [List.length_cons, List.length_nil] at hc1; omega
          · intro A_ W_ hS
            exact sl_weak (vc := []) [0] [7, 59, 60, 61] (by kernel_rfl) trivial hS
      · skip
        refine tr_exit ?_
        refine th_e ?_
        refine th_e ?_
        refine in_hit ?_
        refine tr_then (tr_seq ?_)
        refine tr_r (vc := []) (E' := [(6, none, vbool true)]) (H' := [.box (.p ((eA (eK .u8) 1 2) q))]) [] [] [6] (by kernel_rfl) ?_ ?_
        · exact trivial
        refine tr_then ?_
        refine tr_pre (E' := [(6, none, vbool true)]) (H' := []) (fun A_ W_ hS => sl_weak (vc := []) [] [6] (by kernel_rfl) trivial hS) ?_
        exact tr_return' (vc := []) (ds := [vbool true]) (by kernel_rfl) trivial (by kernel_rfl) (fun _ _ h => h)
  · skip
    refine tr_seq ?_
    refine tr_r (vc := []) (E' := [(2, none, vstr s), (4, none, .ref 0 []), (7, none, vbool true), (8, none, vstr (madeP l)), (9, none, vstr (madeP l)), (25, none, vbool (decide (0 < (((madeP l).length : Nat) : Int))))]) (H' := [.box (.p ((eA (eK .u8) 1 2) q))]) [] [] [2, 4, 7, 8, 9, 25] (by kernel_rfl) ?_ ?_
    · exact trivial
    refine tr_then ?_
    refine tr_condP (decide (0 < (((madeP l).length : Nat) : Int))) (0 < (((madeP l).length : Nat) : Int)) (by simp) (by kernel_rfl) (fun hc3 => ?_) (fun hc3 => ?_)
    · skip
      refine tr_seq ?_
      refine tr_r (vc := [(0 : Int) ≤ 0, 0 < (2 : Int), 0 < 2, (IntKind.wrap .i64 (q 0)) = (q 0), ((((madeP l).length : Nat) : Int) : Int) ≠ 0, ((q 0).tmod (((madeP l).length : Nat) : Int)) = (((atP l q) : Nat) : Int)]) (E' := [(2, none, vstr s), (4, none, .ref 0 []), (7, none, vbool true), (8, none, vstr (madeP l)), (10, none, vint .i64 (((atP l q) : Nat) : Int))]) (H' := [.box (.p ((eA (eK .u8) 1 2) q))]) [(2, vint .i64 (q 0)), (5, vint .i64 (((atP l q) : Nat) : Int))] [] [2, 4, 7, 8, 10] (by kernel_rfl) ?_ ?_
      · refine al ?_ (al ?_ (al ?_ (al ?_ (al ?_ (al ?_ (trivial))))))
        · omega
        · omega
        · omega
        · exact wr64 (by omega) (by omega) (by omega)
        · omega
        · exact rem_nat hq0.1
      refine tr_then (tr_seq ?_)
      refine tr_r (vc := [(0 : Int) ≤ 1, 1 < (2 : Int), 1 < 2, (IntKind.wrap .i64 (q 1)) = (q 1), (11 : Int) ≠ 0, (0 : Int) ≤ ((q 1).tmod 11), ((q 1).tmod 11) < (([97, 98, 45, 48, 91, 93, 124, 63, 43, 42, 120] : List UInt8).length : Int), ((([97, 98, 45, 48, 91, 93, 124, 63, 43, 42, 120] : List UInt8).getD (((q 1).tmod 11).toNat) 0).toNat : Int) = ((chB q).toNat : Int)]) (E' := [(2, none, vstr s), (7, none, vbool true), (8, none, vstr (madeP l)), (10, none, vint .i64 (((atP l q) : Nat) : Int)), (11, none, vint .u8 ((chB q).toNat : Int))]) (H' := [.box (.p ((eA (eK .u8) 1 2) q))]) [(2, vint .i64 (q 1)), (4, vint .u8 ((chB q).toNat : Int))] [] [2, 7, 8, 10, 11] (by kernel_rfl) ?_ ?_
      · refine al ?_ (al ?_ (al ?_ (al ?_ (al ?_ (al ?_ (al ?_ (al ?_ (trivial))))))))
        · omega
        · omega
        · omega
        · exact wr64 (by omega) (by omega) (by omega)
        · omega
        · exact Int.tmod_nonneg _ hq1.1
        · rw [Int.tmod_eq_emod_of_nonneg hq1.1]; simp only [List.length_cons, List.length_nil]; omega
        · rw [show (q 1).tmod 11 = (((q 1).toNat % 11 : Nat) : Int) from rem_nat hq1.1]; rfl
      refine tr_then ?_
      refine tr_d (vc := [(0 : Int) ≤ 0, 0 ≤ (((atP l q) : Nat) : Int), (((atP l q) : Nat) : Int) ≤ ((madeP l).length : Int), (((madeP l).drop 0).take ((atP l q) - 0)) = ((madeP l).take (atP l q)), ∀ j, j < 1 → ([.v (.int .u8 ((chB q).toNat : Int))] : List PV).getD j default = (fun i => (eK .u8) (([((chB q).toNat : Int)]).getD i 0)) j, [((chB q).toNat : Int)].length = [chB q].length ∧ ∀ j, j < [((chB q).toNat : Int)].length → (eK .u8) ([((chB q).toNat : Int)].getD j 0) = PV.v (.int .u8 (([chB q].getD j 0).toNat : Int)), ((((madeP l).take (atP l q)).length + ([chB q]).length : Nat) : Int) ≤ 9223372036854775807, (IntKind.wrap .i64 ((((atP l q) : Nat) : Int) + 1)) = ((((atP l q) + 1) : Nat) : Int), (0 : Int) ≤ ((((atP l q) + 1) : Nat) : Int), ((((atP l q) + 1) : Nat) : Int) ≤ ((madeP l).length : Int), ((madeP l).length : Int) ≤ ((madeP l).length : Int), (((madeP l).drop ((atP l q) + 1)).take (((madeP l).length) - ((atP l q) + 1))) = ((madeP l).drop ((atP l q) + 1)), (((((madeP l).take (atP l q)) ++ ([chB q])).length + ((madeP l).drop ((atP l q) + 1)).length : Nat) : Int) ≤ 9223372036854775807, ((((madeP l).take (atP l q)) ++ ([chB q])) ++ ((madeP l).drop ((atP l q) + 1))) = (oddP l q)]) (E' := [(2, none, vstr s), (7, none, vbool true), (8, none, vstr (madeP l)), (9, none, vstr (oddP l q))]) [(2, vstr ((madeP l).take (atP l q))), (9, vint .i64 ((((atP l q) + 1) : Nat) : Int)), (10, vstr ((madeP l).drop ((atP l q) + 1))), (12, vstr (oddP l q))] [(4, .p ((eL (eK .u8) 1 0) ([((chB q).toNat : Int)]))), (5, vstr ([chB q]))] [2, 7, 8, 9] (by kernel_rfl) (by kernel_rfl) (by kernel_rfl) ?_ ?_
      · refine al ?_ (al ?_ (al ?_ (al ?_ (al ?_ (al ?_ (al ?_ (al ?_ (al ?_ (al ?_ (al ?_ (al ?_ (al ?_ (al ?_ (trivial))))))))))))))
        · omega
        · omega
        · have := atP_lt (q := q) hc3; omega
        · rfl
        · exact lit_pv (e := (eK .u8)) (d := 0) (l := [((chB q).toNat : Int)])
        · exact str_one _
        · (simp_all; omega)
        · have := atP_lt (q := q) hc3; exact wr64 (by omega) (by omega) (by omega)
        · omega
        · have := atP_lt (q := q) hc3; omega
        · omega
        · exact cut_drop_str
        · (simp_all; omega)
        · unfold oddP; rw [if_pos (by omega)]; try simp only [List.append_assoc]
      refine jn_end () ?_ ?_
      · exact trivial
      · intro A_ W_ hS
        exact sl_weak (vc := []) [0] [2, 7, 8, 9] (by kernel_rfl) trivial hS
    · skip
      refine tr_skip ?_
      refine jn_end () ?_ ?_
      · exact trivial
      · intro A_ W_ hS
        replace hS := sl_set (d := vstr (madeP l)) 9 (vstr (oddP l q)) (by kernel_rfl) (eqD_str (by unfold oddP; rw [if_neg (by omega)])) hS
        exact sl_weak (vc := []) [0] [2, 7, 8, 9] (by kernel_rfl) trivial hS
end Go.Proofs.Ytjnjmnfacaakfaa
namespace Go.Proofs.Ytjnjmnfacaakfaa
open Go.Eng Go.ChangeShapes Go.WideShapes Go.ChangeAt Go.RowKit Go.Deep
set_option maxRecDepth 100000 in
theorem parses_contract (H : Type) (enc : TypeId × Value → H) (W : World) (base : Nat) (args : Array Value) (ds gs : List (DataW H)) (before : List MemPlace)
    (hval : ∀ (j : Nat) t v, Try.f3.params[j]? = some t → args[j]? = some v → Value.okWide Try.prog W .any base t v)
    (hW : DataW.Whole enc Try.prog Try.f3.params.toList Rows.languageParsesSpec.vars false W args.toList ds gs before)
    (hz : (DataW.weightsEach Try.prog (Try.f3.params.toList ++ Rows.languageParsesSpec.plain.varTypes Try.prog) (ds ++ gs)).all (· ≤ reachBytes) = true) :
    Calls Try.prog 3 args W fun e W' => ∃ v, e = .returned v ∧ Rows.languageParsesSpec.post enc Try.prog Try.f3 false true false false W args v W' := by
  refine contract_of (tb := 4) laidOut_ ?_ rfl Try.underlying4 rfl ?_ hval hW hz ?_
  · intro t ht
    have ht' : t ∈ [22, 23, 9] := ht
    simp only [List.mem_cons, List.not_mem_nil, or_false] at ht'
    rcases ht' with rfl | rfl | rfl
    · exact readable22_
    · exact readable23_
    · exact readable9_
  · intro ds hds
    match ds, hds with
    | [_, _, _], _ => exact ⟨rfl, rfl, rfl⟩
  · intro hO
    obtain ⟨v0, d0, p0, e0, k0, t0, w0⟩ := hO 0 22 rfl
    obtain ⟨v1, d1, p1, e1, k1, t1, w1⟩ := hO 1 23 rfl
    obtain ⟨v2, d2, p2, e2, k2, t2, w2⟩ := hO 2 9 rfl
    obtain ⟨l, a0, g0⟩ := arg_ints Try.underlying22 Try.underlying3 cells3_ k0 t0
    obtain ⟨q, a1, g1⟩ := arg_array Try.underlying23 Try.underlying5 cells5_ cells23_ k1 t1
    obtain ⟨s, a2, g2⟩ := arg_string Try.underlying9 k2 t2
    have hq : ∀ i, i < 2 → 0 ≤ q i ∧ q i < 256 := fun i hi => by
      have h1 : 0 ≤ q i ∧ q i ≤ 255 := by simpa [Lit.wf, IntKind.min, IntKind.max, IntKind.signed, IntKind.bits] using g1 i hi
      omega
    have hs : s.length ≤ reachBytes := by
      subst g2
      exact w2 _ (by simp [DataW.weights])
    have hs : s.length < 4611686018427387904 := Nat.lt_of_le_of_lt hs (by decide)
    refine ⟨_, parses_ok l q s hq hs, rfl, ?_⟩
    · intro j p v hp hv
      match j, hp, hv with
      | 0, hp, hv => cases hp; cases e0.symm.trans hv; exact a0
      | 1, hp, hv => cases hp; cases e1.symm.trans hv; exact a1
      | 2, hp, hv => cases hp; cases e2.symm.trans hv; exact a2
set_option maxRecDepth 100000 in
theorem parses_lifted (os : Os) (started : os.Started) (H : Type) (enc : TypeId × Value → H) :
    ReturnsInHanded {} Try.checked os 3 .any (Rows.languageParsesSpec.pre6 enc Try.prog Try.f3 Rows.languageParsesRow.domain false) (Rows.languageParsesSpec.post enc Try.prog Try.f3 false true false false) := by
  refine returnsInHanded_of_change_sized (C := Try.checked) own_ started (by kernel_rfl) Try.func3
    (ChangeSpec.witness6 (enc := enc) (C := Try.checked) false ⟨#[], #[.slice none 0 0, .agg #[.int .u8 0, .int .u8 0], .string .empty], []⟩ 8 (by kernel_rfl) (by kernel_rfl) (by kernel_rfl) (by kernel_rfl)) ?_
  intro W base args ds gs before hval hW _ hz _
  exact parses_contract H enc W base args ds gs before hval hW hz
theorem parsesProved : Rows.LanguageParsesSaid :=
  OpenClaim.holds_of_wide 3 Try.f3 rfl rfl rfl rfl rfl rfl rfl ⟨rfl, rfl, rfl, rfl, rfl⟩ rfl rfl rfl rfl rfl (by kernel_rfl) Try.func3 (by kernel_rfl)
    (of_decide_eq_true (by kernel_rfl)) (by unfold Func.isWrapper; first | (rw [if_pos (by decide +kernel)]; kernel_rfl) | (rw [if_neg (by decide +kernel)]; exact ⟨rfl, rfl⟩))
    (fun os started H enc _ => parses_lifted os started H enc)
end Go.Proofs.Ytjnjmnfacaakfaa
