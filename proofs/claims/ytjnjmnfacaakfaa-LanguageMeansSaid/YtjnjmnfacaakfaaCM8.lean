/-
  LanguageMeans: whatever the input, the call returns true, and each argument reads afterwards as it read before. No conditions.
-/
import Derived.Test.YtjnjmnfacaakfaaCM7
import Derived.Test.YtjnjmnfacaakfaaRows
namespace Go.Proofs.Ytjnjmnfacaakfaa
open Go.Eng
theorem index_split {c : UInt8} : ∀ {t : List UInt8}, 0 ≤ Lib.indexByte t c → t = t.take (Lib.indexByte t c).toNat ++ c :: t.drop ((Lib.indexByte t c) + 1).toNat ∧ ∀ b ∈ t.take (Lib.indexByte t c).toNat, b ≠ c
  | [], h => by simp [Lib.indexByte] at h
  | b :: t, h => by
    have hge := Lib.indexByte_ge t c
    simp only [Lib.indexByte] at h ⊢
    by_cases hb : (b == c) = true
    · have : b = c := by simpa using hb
      subst this
      simp
    · rw [if_neg hb] at h ⊢
      by_cases hm : Lib.indexByte t c = -1
      · rw [hm] at h; simp at h
      · have h0 : 0 ≤ Lib.indexByte t c := by omega
        have hm' : ¬ (Lib.indexByte t c == -1) = true := by simpa using hm
        rw [if_neg hm']
        obtain ⟨i1, i2⟩ := index_split h0
        have e1 : (Lib.indexByte t c + 1).toNat = (Lib.indexByte t c).toNat + 1 := by omega
        have e2 : (Lib.indexByte t c + 1 + 1).toNat = (Lib.indexByte t c + 1).toNat + 1 := by omega
        rw [e2, List.drop_succ_cons, e1, List.take_succ_cons, List.cons_append]
        rw [e1] at i1
        refine ⟨by rw [← i1], fun x hx => ?_⟩
        rcases List.mem_cons.1 hx with rfl | hx
        · simpa using hb
        · exact i2 x hx
theorem index_none {c : UInt8} : ∀ {t : List UInt8}, ¬ 0 ≤ Lib.indexByte t c → ∀ b ∈ t, b ≠ c
  | [], _ => by simp
  | b :: t, h => by
    have hge := Lib.indexByte_ge t c
    simp only [Lib.indexByte] at h
    by_cases hb : (b == c) = true
    · rw [if_pos hb] at h; omega
    · rw [if_neg hb] at h
      have h0 : ¬ 0 ≤ Lib.indexByte t c := by
        intro h0
        have hm' : ¬ (Lib.indexByte t c == -1) = true := by simp; omega
        rw [if_neg hm'] at h
        omega
      intro x hx
      rcases List.mem_cons.1 hx with rfl | hx
      · simpa using hb
      · exact index_none h0 x hx
theorem setL_none {s : List UInt8} {f : Nat} : ∀ {n p : Nat} {o : Nat → Bool}, (∀ i, p ≤ i → s.getD i 0 ≠ 93) → (setL n s f p o).2.2 = false
  | 0, _, _, _ => rfl
  | n + 1, p, o, h => by
    by_cases hp : p < s.length
    · have hgo : ((p : Nat) : Int) < ((s.length : Nat) : Int) ∧ ((s.getD p 0).toNat : Int) ≠ 93 := ⟨by omega, fun e => h p (Nat.le_refl _) ((ne_byte 93 rfl).1 e)⟩
      by_cases hm : (memF s f p).2.2 = false
      · rw [setL_1 (by omega) hgo hm]
      · have hle := memF_le hp (eq_true_of_ne_false hm)
        rw [setL_2 (by omega) hgo hm]
        exact setL_none fun i hi => h i (by omega)
    · rw [setL_3 (by omega) (fun h => hp (by have := h.1; omega)), decide_eq_false (by omega)]
      rfl
/-- A class: fails in both, or is in both the same set, with the same behind it. -/
theorem class_R {s : List UInt8} {p : Nat} (hp : p ≤ s.length) : (classS (s.drop p) = none ∧ (setL (s.length + 1) s p p noSet).2.2 = false) ∨
    ∃ S q, classS (s.drop p) = some (S, q) ∧ (setL (s.length + 1) s p p noSet).2.2 = true ∧ (setL (s.length + 1) s p p noSet).2.1 ≤ s.length ∧ s.drop (setL (s.length + 1) s p p noSet).2.1 = q ∧ SetEq S (setL (s.length + 1) s p p noSet).1 := by
  by_cases h0 : 0 ≤ Lib.indexByte (s.drop p) 93
  · obtain ⟨hd, h93⟩ := index_split h0
    have ec : cutB (s.drop p) 93 = ((s.drop p).take (Lib.indexByte (s.drop p) 93).toNat, (s.drop p).drop ((Lib.indexByte (s.drop p) 93) + 1).toNat, true) := by unfold cutB; rw [if_pos h0]
    generalize (s.drop p).take (Lib.indexByte (s.drop p) 93).toNat = body at hd h93 ec
    generalize (s.drop p).drop ((Lib.indexByte (s.drop p) 93) + 1).toNat = rest at hd ec
    have hlen : (s.drop p).length = body.length + (rest.length + 1) := by rw [hd]; simp
    rw [List.length_drop] at hlen
    match body, hd, h93, ec, hlen with
    | [], hd, _, ec, hlen =>
      obtain ⟨hlt, g1, g2⟩ := drop_next hd
      refine .inl ⟨class_none0 (.inr (by rw [ec])), ?_⟩
      rw [setL_3 (by omega) (fun h => h.2 (by rw [g1]; rfl))]
      simp
    | b :: body, hd, h93, ec, hlen =>
      have hcl : ∀ x, classM (b :: body) = x → classS (s.drop p) = x.map fun S => (S, rest) := fun x hx => by
        unfold classS
        rw [ec, if_neg (by simp), hx]
      obtain ⟨hlt, g1, g2⟩ := drop_next hd
      simp only [List.length_cons] at hlen
      have fin : ∀ {k l S p' o n}, s.drop p' = l ++ 93 :: rest → (∀ b ∈ l, b ≠ 93) → l.length ≤ k → l.length < n → (p < p' ∨ p = p' ∧ ∃ b l', l = b :: l' ∧ b ≠ 45) → SetEq S o → memb k l S = classM (b :: body) → setL n s p p' o = setL (s.length + 1) s p p noSet → p' + l.length + rest.length + 1 = s.length →
          (classS (s.drop p) = none ∧ (setL (s.length + 1) s p p noSet).2.2 = false) ∨
          ∃ S q, classS (s.drop p) = some (S, q) ∧ (setL (s.length + 1) s p p noSet).2.2 = true ∧ (setL (s.length + 1) s p p noSet).2.1 ≤ s.length ∧ s.drop (setL (s.length + 1) s p p noSet).2.1 = q ∧ SetEq S (setL (s.length + 1) s p p noSet).1 := by
        intro k l S p' o n a1 a2 a3 a4 a5 a6 a7 a8 a9
        rcases setL_memb a1 a2 a3 a4 a5 a6 with ⟨i1, i2⟩ | ⟨S', i1, i2, i3, i4⟩
        · rw [a7] at i1
          rw [a8] at i2
          exact .inl ⟨by rw [hcl _ i1]; rfl, i2⟩
        · rw [a7] at i1
          rw [a8] at i2 i3 i4
          refine .inr ⟨S', rest, by rw [hcl _ i1]; rfl, i2, by rw [i3]; omega, ?_, i4⟩
          rw [i3, Nat.add_assoc, ← List.drop_drop, a1]
          simp
      by_cases h45 : b = 45
      · subst h45
        have e2 : memF s p p = (memS s p, p + 1, true) := by
          unfold memF memR
          have em : m0 s p = 36 := by unfold m0; rw [g1]; rfl
          rw [if_neg (by rw [em]; omega), if_pos em]
          simp
        have hgo : ((p : Nat) : Int) < ((s.length : Nat) : Int) ∧ ((s.getD p 0).toNat : Int) ≠ 93 := ⟨by omega, by rw [g1]; decide⟩
        refine fin (k := (45 :: body).length) (l := body) (S := upd noSet 36 true) (p' := p + 1) (o := orN noSet (memS s p) 37) (n := s.length) g2 (fun x hx => h93 x (by simp [hx])) (by simp) (by omega) (by left; omega) ?_ ?_ ?_ (by omega)
        · intro c hc
          unfold orN memS m0
          rw [if_pos hc, g1]
          rfl
        · unfold classM
          rw [if_pos (show (((45 :: body : List UInt8).getD 0 0).toNat : Nat) = 45 from rfl)]
          rfl
        · rw [setL_2 (n := s.length + 1) (by omega) hgo (by rw [e2]; simp), e2]; rfl
      · refine fin (k := (b :: body).length) (l := b :: body) (S := noSet) (p' := p) (o := noSet) (n := s.length + 1) hd h93 (Nat.le_refl _) (by simp; omega) (.inr ⟨rfl, b, body, rfl, h45⟩) (fun _ _ => rfl) ?_ rfl (by simp; omega)
        unfold classM
        rw [if_neg]
        show ¬ b.toNat = 45
        intro h
        exact h45 (UInt8.toNat_inj.1 h)
  · refine .inl ⟨class_none0 (.inl ?_), setL_none fun i hi => ?_⟩
    · unfold cutB; rw [if_neg h0]
    · by_cases hl : i < s.length
      · have := index_none h0 (s.getD i 0) (by
          rw [List.mem_iff_getElem?]
          refine ⟨i - p, ?_⟩
          rw [List.getElem?_drop, show p + (i - p) = i by omega, List.getD_eq_getElem?_getD, List.getElem?_eq_getElem hl]; rfl)
        exact this
      · rw [List.getD_eq_getElem?_getD, List.getElem?_eq_none (by omega)]; decide
theorem drop_getD {s : List UInt8} {p : Nat} : (s.drop p).getD 0 0 = s.getD p 0 := by
  rw [List.getD_eq_getElem?_getD, List.getD_eq_getElem?_getD, List.getElem?_drop, Nat.add_zero]
/-- A piece's set: fails in both, or is the same. -/
theorem set_R {s : List UInt8} {p : Nat} (hp : p < s.length) : (pSet (s.drop p) = none ∧ (setR s p).2.2 = false) ∨
    ∃ S q, pSet (s.drop p) = some (S, q) ∧ (setR s p).2.2 = true ∧ (setR s p).2.1 ≤ s.length ∧ s.drop (setR s p).2.1 = q ∧ SetEq S (setR s p).1 := by
  unfold pSet setR
  rw [drop_getD]
  by_cases h91 : ((s.getD p 0).toNat : Int) = 91
  · rw [if_pos h91, if_neg (by simpa using h91), List.drop_drop]
    exact class_R (by omega)
  · rw [if_neg h91, if_pos h91]
    have em : m0 s p = sym ((s.getD p 0).toNat : Int) := rfl
    by_cases h0 : 0 ≤ sym ((s.getD p 0).toNat : Int)
    · rw [if_pos h0, if_neg (by omega)]
      refine .inr ⟨_, _, rfl, rfl, by simp only; omega, by rw [List.drop_drop], fun c _ => rfl⟩
    · rw [if_neg h0, if_pos (by omega)]
      exact .inl ⟨rfl, rfl⟩
theorem moreB_iff : ∀ b : Fin 256, moreB (UInt8.ofNat b.val) = true ↔ ((((UInt8.ofNat b.val).toNat : Int) = 63 ∨ ((UInt8.ofNat b.val).toNat : Int) = 43) ∨ ((UInt8.ofNat b.val).toNat : Int) = 42) := by decide +kernel
theorem moreB_eq (b : UInt8) : moreB b = true ↔ (((b.toNat : Int) = 63 ∨ (b.toNat : Int) = 43) ∨ (b.toNat : Int) = 42) := by
  have := moreB_iff ⟨b.toNat, b.toNat_lt⟩
  simpa using this
theorem hasM_R {s : List UInt8} {q : Nat} {S : Nat → Bool} : pHas (some (S, s.drop q)) ↔ HasM s q := by
  unfold pHas HasM
  simp only [cRest, Option.isSome_some, true_and, drop_getD, moreB_eq]
  have : s.drop q ≠ [] ↔ ((q : Nat) : Int) < ((s.length : Nat) : Int) := by
    rw [Ne, List.drop_eq_nil_iff]; omega
  rw [this]
/-- The sign behind a piece, and what is behind it. -/
theorem more_R {s : List UInt8} {q : Nat} {S : Nat → Bool} : pMore (some (S, s.drop q)) = moR s q ∧ pRest (some (S, s.drop q)) = s.drop (nxR s q) := by
  unfold pMore pRest moR nxR
  by_cases h : HasM s q
  · rw [if_pos h, if_pos (hasM_R.2 h), if_pos h, if_pos (hasM_R.2 h)]
    simp only [cRest, drop_getD, List.drop_drop, and_self]
  · rw [if_neg h, if_neg (fun h' => h (hasM_R.1 h')), if_neg h, if_neg (fun h' => h (hasM_R.1 h'))]
    exact ⟨rfl, rfl⟩
/-- A place is a piece. -/
def PP (p : Place) (q : Piece) : Prop := p.fEnd = false ∧ p.fMore = q.More ∧ (q.More = 0 ∨ q.More = 42 ∨ q.More = 63) ∧ ∀ c : Nat, c < 37 → bitOf p.fSet (c : Int) = q.Set c
/-- A branch of places is one of pieces. -/
def BR (b : List Place) (q : List Piece) : Prop := ∃ body, b = body ++ [endP] ∧ Rel PP body q
theorem pp_of {S o : Nat → Bool} {m : Int} (hS : SetEq S o) (hm : m = 0 ∨ m = 42 ∨ m = 63) : PP { fSet := word64 S, fMore := m } { Set := o, More := m } :=
  ⟨rfl, rfl, hm, fun c hc => by rw [bitOf_word (by omega)]; exact hS c hc⟩
theorem branches_R {s : List UInt8} : ∀ {n k p : Nat} {ps : List Place} {cur : List Piece} {out : List (List Piece)}, s.length < n + p → s.length < k + p → p ≤ s.length → Rel PP ps cur →
    (brR n s p cur out = none ∧ parseB k ps (s.drop p) = none) ∨ ∃ bs bp, brR n s p cur out = some (out ++ bs) ∧ parseB k ps (s.drop p) = some bp ∧ Rel BR bp bs
  | 0, _, _, _, _, _, h, _, h', _ => by omega
  | _ + 1, 0, _, _, _, _, _, h, h', _ => by omega
  | n + 1, k + 1, p, ps, cur, out, hn, hk, hp, hR => by
    have hl := hR.length
    have e0 : ((cur.length : Nat) : Int) = 0 ↔ ps = [] := by rw [← List.length_eq_zero_iff]; omega
    by_cases hlt : p < s.length
    · have hne : s.drop p ≠ [] := by rw [Ne, List.drop_eq_nil_iff]; omega
      by_cases h124 : ((s.getD p 0).toNat : Int) = 124
      · by_cases hc : ps = []
        · refine .inl ⟨brR_1 (by omega) (by omega) h124 (e0.2 hc), ?_⟩
          rw [parseB, if_pos (.inr (by rw [drop_getD]; exact h124)), if_pos hc]
        · rw [brR_2 (by omega) (by omega) h124 (fun h => hc (e0.1 h)), parseB, if_pos (.inr (by rw [drop_getD]; exact h124)), if_neg hc, if_neg hne, List.drop_drop]
          rcases branches_R (s := s) (n := n) (k := k) (p := p + 1) (ps := []) (cur := []) (out := out ++ [cur]) (by omega) (by omega) (by omega) .nil with ⟨i1, i2⟩ | ⟨bs, bp, i1, i2, i3⟩
          · exact .inl ⟨i1, by rw [i2]; rfl⟩
          · exact .inr ⟨cur :: bs, (ps ++ [endP]) :: bp, by rw [Nat.add_sub_cancel, i1]; simp, by rw [i2]; rfl, .cons ⟨ps, rfl, hR⟩ i3⟩
      · have hr : ¬ (s.drop p = [] ∨ (((s.drop p).getD 0 0).toNat : Int) = 124) := by
          rw [not_or, drop_getD]; exact ⟨hne, h124⟩
        rcases set_R hlt with ⟨a1, a2⟩ | ⟨S, q, a1, a2, a3, a4, a5⟩
        · refine .inl ⟨brR_3 (by omega) (by omega) h124 a2, ?_⟩
          rw [parseB, if_neg hr, if_neg (by rw [a1]; simp)]
        · subst a4
          have hsl := setR_le hlt a2
          obtain ⟨b1, b2⟩ := more_R (s := s) (q := (setR s p).2.1) (S := S)
          have hnx := nxR_le (s := s) a3
          rw [brR_4 (by omega) (by omega) h124 (by rw [a2]; simp), parseB, if_neg hr, if_pos (by rw [a1]; rfl), a1, b1, b2, Nat.add_sub_cancel]
          have hmo : moR s (setR s p).2.1 = 43 ∨ moR s (setR s p).2.1 = 0 ∨ moR s (setR s p).2.1 = 42 ∨ moR s (setR s p).2.1 = 63 := by
            unfold moR
            split
            · rename_i h
              rcases h.2 with (h | h) | h <;> rw [h] <;> simp
            · simp
          by_cases hm : moR s (setR s p).2.1 = 43
          · rw [if_pos hm]
            have eA : addR cur (setR s p).1 (moR s (setR s p).2.1) = cur ++ [({ Set := (setR s p).1 } : Piece)] := by rw [addR, if_pos hm]
            have eT : moT (moR s (setR s p).2.1) = 42 := by rw [moT, if_pos hm]
            rw [eA, eT]
            exact branches_R (by omega) (by omega) (by omega) ((hR.snoc (pp_of a5 (.inl rfl))).snoc (pp_of a5 (.inr (.inl rfl))))
          · rw [if_neg hm]
            have eA : addR cur (setR s p).1 (moR s (setR s p).2.1) = cur := by rw [addR, if_neg hm]
            have eT : moT (moR s (setR s p).2.1) = moR s (setR s p).2.1 := by rw [moT, if_neg hm]
            rw [eA, eT]
            exact branches_R (by omega) (by omega) (by omega) (hR.snoc (pp_of a5 (hmo.resolve_left hm)))
    · have hd : s.drop p = [] := List.drop_of_length_le (by omega)
      by_cases hc : ps = []
      · refine .inl ⟨brR_5 (by omega) (by omega) (e0.2 hc), ?_⟩
        rw [parseB, if_pos (.inl hd), if_pos hc]
      · refine .inr ⟨[cur], [ps ++ [endP]], brR_6 (by omega) (by omega) (fun h => hc (e0.1 h)), ?_, .cons ⟨ps, rfl, hR⟩ .nil⟩
        rw [parseB, if_pos (.inl hd), if_neg hc, if_pos hd]
theorem branchesR_B (s : List UInt8) : (branchesR s = none ∧ branchesS s = none) ∨ ∃ bs bp, branchesR s = some bs ∧ branchesS s = some bp ∧ Rel BR bp bs := by
  have := branches_R (s := s) (n := s.length + 1) (k := s.length + 1) (p := 0) (ps := []) (cur := []) (out := []) (by omega) (by omega) (by omega) .nil
  exact this
/-- What matches the pieces of a branch is what is accepted from its first place on. -/
theorem oneP_sc {p : Piece} {b : List Piece} {c : UInt8} {w : List UInt8} : oneP (p :: b) (c :: w) = (decide (0 ≤ sym c.toNat) && p.Set (sc c)) := by
  unfold oneP sc
  simp only [List.length_cons, List.getD_cons_zero, Nat.zero_lt_succ, decide_true, Bool.true_and]
  by_cases h : 0 ≤ sym (c.toNat : Int)
  · rw [decide_eq_true h, Int.max_eq_right h]; simp
  · rw [decide_eq_false h]; simp
theorem pacc_mat : ∀ {ps : List Place} {qs : List Piece}, Rel PP ps qs → ∀ w, pacc (ps ++ [endP]) w = mat qs w
  | _, _, .nil, [] => by rw [mat, List.nil_append, pacc]; rfl
  | _, _, .nil, c :: w => by rw [mat, List.nil_append, pacc]; simp [pacc, endP, bit0]
  | _, _, .cons (x := p) (y := q) (L := ps) (M := qs) h hR, [] => by
    obtain ⟨h1, h2, h3, h4⟩ := h
    have ih := pacc_mat hR []
    rw [List.cons_append, pacc, mat, ih, h1, h2, Bool.false_or]
    rcases h3 with h3 | h3 | h3 <;> rw [h3] <;> simp
  | _, _, .cons (x := p) (y := q) (L := ps) (M := qs) h hR, c :: w => by
    have i1 := pacc_mat hR (c :: w)
    have i2 := pacc_mat hR w
    have i3 := pacc_mat (.cons h hR) w
    obtain ⟨h1, h2, h3, h4⟩ := h
    rw [List.cons_append] at i3
    have hs : sc c < 37 := by have := sym_le (c.toNat : Int); unfold sc; omega
    rw [List.cons_append, pacc, mat, i1, i2, i3, h2, h4 _ hs, oneP_sc]
    rcases h3 with h3 | h3 | h3 <;> rw [h3] <;> simp
termination_by ps qs _ w => ps.length + w.length
/-- The automaton of a pattern accepts what matches a branch. -/
theorem langS_mat {s : List UInt8} {l : Lang} (h : langS s = (l, 0)) (w : List UInt8) : has l w = (brOf (branchesR s)).any fun b => mat b w := by
  obtain ⟨bp, h1, h2⟩ := langS_B h
  rcases branchesR_B s with ⟨h3, h4⟩ | ⟨bs, bp', h3, h4, h5⟩
  · rw [h4] at h1; cases h1
  · rw [h4] at h1
    cases h1
    rw [Bool.eq_iff_iff, h2 w, h3]
    simp only [brOf, List.any_eq_true]
    clear h3 h4 h2 h
    induction h5 with
    | nil => simp
    | cons hx _ ih =>
      obtain ⟨body, rfl, hR⟩ := hx
      simp only [List.mem_cons, exists_eq_or_imp, pacc_mat hR w, ih]
theorem branchesR_some {s : List UInt8} : (branchesR s).isSome = (branchesS s).isSome := by
  rcases branchesR_B s with ⟨h3, h4⟩ | ⟨bs, bp', h3, h4, h5⟩ <;> rw [h3, h4] <;> rfl
end Go.Proofs.Ytjnjmnfacaakfaa
namespace Go.Proofs.Ytjnjmnfacaakfaa
open Go.Eng
abbrev Mp := Nat → Option Bool
/-- What is read of a key. -/
def gb (M : Mp) (k : Nat) : Bool := (M k).getD false
def putM (M : Mp) (k : Nat) (b : Bool) : Mp := fun i => if i = k then some b else M i
def mapO (M : Mp) : List Int → Option PV
  | [i] => if 0 ≤ i then (M i.toNat).map fun b => .v (.bool b) else none
  | _ => none
theorem mapO_get (M : Mp) (k : Int) (h : 0 ≤ k) : eqD (.p ((mapO M ([k] : List Int)).getD (.v (.bool false)))) (vbool (gb M k.toNat)) := by
  refine eqD_of (congrArg D.p ?_)
  unfold mapO gb
  simp only [if_pos h]
  cases M k.toNat <;> rfl
theorem mapO_put (M : Mp) (k : Int) (b : Bool) (h : 0 ≤ k) : setMap (mapO M) ([k] : List Int) (.v (.bool b)) = mapO (putM M k.toNat b) := by
  funext j
  by_cases hj : j = [k]
  · subst hj
    rw [setMap_at]
    simp only [mapO, if_pos h, putM, if_true, Option.map_some]
  · rw [setMap_ne hj]
    match j, hj with
    | [], _ => rfl
    | [i], hj =>
      have : i ≠ k := fun e => hj (by rw [e])
      simp only [mapO, putM]
      by_cases hi : 0 ≤ i
      · rw [if_pos hi, if_pos hi, if_neg (by omega)]
      · rw [if_neg hi, if_neg hi]
    | _ :: _ :: _, _ => rfl
def mp0 : Mp := fun i => if i = 0 then some true else none
def mpL (l : Lang) (k : Nat) : Mp := fun i => if i < k then some (l.Accept.getD i false) else none
theorem mp0_eq : setMap (fun _ => none) ([0] : List Int) (.v (.bool true)) = mapO mp0 := by
  have e : (fun _ => none) = mapO (fun _ => none) := by
    funext j
    match j with
    | [] => rfl
    | [i] => simp [mapO]
    | _ :: _ :: _ => rfl
  rw [e, mapO_put _ _ _ (by omega)]
  rfl
theorem mpL_0 (l : Lang) : (fun _ => none) = mapO (mpL l 0) := by
  funext j
  match j with
  | [] => rfl
  | [i] => simp [mapO, mpL]
  | _ :: _ :: _ => rfl
theorem mpL_s (l : Lang) (k : Nat) : setMap (mapO (mpL l k)) ([((k : Nat) : Int)] : List Int) (.v (.bool (l.Accept.getD k false))) = mapO (mpL l (k + 1)) := by
  rw [mapO_put _ _ _ (by omega)]
  congr 1
  funext i
  unfold putM mpL
  rw [Int.toNat_natCast]
  by_cases h : i = k
  · subst h; rw [if_pos rfl, if_pos (by omega)]
  · rw [if_neg h]
    by_cases h1 : i < k
    · rw [if_pos h1, if_pos (by omega)]
    · rw [if_neg h1, if_neg (by omega)]
def toL (l : Lang) (k c : Nat) : Int := (l.Next.getD k []).getD c 0
def cellL (l : Lang) (k c : Nat) (x : Mp × Mp) : Mp × Mp := if 0 ≤ toL l k c then (putM x.1 (toL l k c).toNat (gb x.1 (toL l k c).toNat || gb x.1 k), putM x.2 k (gb x.2 k || gb x.2 (toL l k c).toNat)) else x
def rowLv (l : Lang) (k : Nat) (x : Mp × Mp) : Nat → Mp × Mp
  | 0 => x
  | c + 1 => cellL l k c (rowLv l k x c)
def rndL (l : Lang) (x : Mp × Mp) : Nat → Mp × Mp
  | 0 => x
  | k + 1 => rowLv l k (rndL l x k) (l.Next.getD k []).length
def allL (l : Lang) : Nat → Mp × Mp
  | 0 => (mp0, mpL l l.Accept.length)
  | r + 1 => rndL l (allL l r) l.Next.length
def outL (l : Lang) (x : Mp × Mp) (q : Nat) : List Bool := (List.range l.Accept.length).map fun k => if k < q then gb x.1 k && gb x.2 k else false
def liveL (l : Lang) : List Bool := outL l (allL l l.Accept.length) l.Accept.length
def liveS (l : Lang) : List Bool := if check l ≠ 0 then [] else liveL l
theorem outL_len (l : Lang) (x : Mp × Mp) (q : Nat) : (outL l x q).length = l.Accept.length := by simp [outL]
theorem outL_0 (l : Lang) (x : Mp × Mp) : List.replicate l.Accept.length false = outL l x 0 := by
  apply List.ext_getElem (by simp [outL])
  intro i h1 h2
  simp [outL]
theorem outL_s (l : Lang) (x : Mp × Mp) {q : Nat} (hq : q < l.Accept.length) : (outL l x q).set q (gb x.1 q && gb x.2 q) = outL l x (q + 1) := by
  apply List.ext_getElem (by simp [outL])
  intro i h1 h2
  rw [List.getElem_set]
  simp only [outL, List.getElem_map, List.getElem_range]
  by_cases h : q = i
  · subst h; rw [if_pos rfl, if_pos (by omega)]
  · rw [if_neg h]
    by_cases h1 : i < q
    · rw [if_pos h1, if_pos (by omega)]
    · rw [if_neg h1, if_neg (by omega)]
theorem live_ok (l : Lang) : Pure Try.prog 25 [eLang l] (.p ((eL eB 1 false) (liveS l))) := by
  refine pure_of (fn := Try.f25) Try.func25 rfl rfl fun F_ W0_ => ?_
  refine tr_seq ?_
  refine tr_r (vc := []) (E' := [(1, none, .ref 0 [])]) (H' := [.box (.p (eLang l))]) [] [] [1] (by kernel_rfl) ?_ ?_
  · exact trivial
  refine tr_then ?_
  refine tr_seq ?_
  refine tr_seq ?_
  refine tr_r (vc := [Pure Try.prog 20 [eLang l] (vint .i64 (check l))]) (E' := [(1, none, .ref 0 []), (15, none, vbool ((check l) != 0))]) (H' := [.box (.p (eLang l))]) [] [(1, vint .i64 (check l))] [1, 15] (by kernel_rfl) ?_ ?_
  · refine al ?_ (trivial)
    · exact check_ok _
  refine tr_then ?_
  refine tr_condP ((check l) != 0) ((check l) ≠ 0) (by simp) (by kernel_rfl) (fun hc1 => ?_) (fun hc1 => ?_)
  · skip
    refine tr_seq ?_
    refine tr_r (vc := []) (E' := [(2, none, .p (.v (.slice none 0 0)))]) (H' := [.box (.p (eLang l))]) [] [] [2] (by kernel_rfl) ?_ ?_
    · exact trivial
    refine tr_then ?_
    refine tr_pre (E' := [(2, none, .p (.v (.slice none 0 0)))]) (H' := []) (fun A_ W_ hS => sl_weak (vc := []) [] [2] (by kernel_rfl) trivial hS) ?_
    refine tr_pre (E' := (2, none, .p ((eL eB 1 false) (liveS l))) :: [(2, none, .p (.v (.slice none 0 0)))]) (H' := []) (fun A_ W_ hS => sl_set_imp (d := .p (.v (.slice none 0 0))) 2 (.p ((eL eB 1 false) (liveS l))) (by kernel_rfl) ?_ hS) ?_
    · refine imp_nil (liveS l) ?_
      rw [liveS, if_pos hc1]
    refine tr_pre (E' := [(2, none, .p ((eL eB 1 false) (liveS l)))]) (H' := []) (fun A_ W_ hS => sl_proj (ts := [2]) (by kernel_rfl) hS) ?_
    exact tr_return' (vc := []) (ds := [.p ((eL eB 1 false) (liveS l))]) (by kernel_rfl) trivial (by kernel_rfl) (fun _ _ h => h)
  · skip
    refine tr_skip ?_
    refine tr_then ?_
    refine tr_seq ?_
    refine tr_r (vc := []) (E' := [(1, none, .ref 0 []), (3, none, .own 1), (4, none, .own 2)]) (H' := [.box (.p (eLang l)), .map (.one .i64) (setMap (fun _ => none) ([0] : List Int) (.v (.bool true))), .map (.one .i64) (fun _ => none)]) [] [] [1, 3, 4] (by kernel_rfl) ?_ ?_
    · exact trivial
    refine tr_then ?_
    refine tr_seq ?_
    refine tr_seq ?_
    refine tr_r (vc := []) (E' := [(1, none, .ref 0 []), (3, none, .own 1), (4, none, .own 2), (20, none, .p ((eL eB 1 false) l.Accept)), (21, none, vint .i64 ((l.Accept.length : Nat) : Int)), (22, none, vint .i64 0)]) (H' := [.box (.p (eLang l)), .map (.one .i64) (setMap (fun _ => none) ([0] : List Int) (.v (.bool true))), .map (.one .i64) (fun _ => none)]) [] [] [1, 3, 4, 20, 21, 22] (by kernel_rfl) ?_ ?_
    · exact trivial
    refine tr_then ?_
    refine tr_block ?_
    refine tr_loop (α := Nat) (fun z : Nat => (fun (k : Nat) => [(1, none, .ref 0 []), (3, none, .own 1), (4, none, .own 2), (20, none, .p ((eL eB 1 false) l.Accept)), (21, none, vint .i64 ((l.Accept.length : Nat) : Int)), (22, none, vint .i64 ((k : Nat) : Int))]) z) (fun z : Nat => (fun (k : Nat) => [.box (.p (eLang l)), .map (.one .i64) (setMap (fun _ => none) ([0] : List Int) (.v (.bool true))), .map (.one .i64) (mapO (mpL l k))]) z) (fun z : Nat => (fun (k : Nat) => (k ≤ l.Accept.length)) z) (fun z : Nat => (fun (k : Nat) => l.Accept.length - k) z) 0 ?_ ?_ ?_
    · show (0 ≤ l.Accept.length)
      · first | omega | (intro hg; simp at hg; omega) | (simp; done) | (simp_all; done) | (simp_all; omega) | grind
    · intro A_ W_ hS
      replace hS := sl_set (d := vint .i64 0) 22 (vint .i64 ((0 : Nat) : Int)) (by kernel_rfl) (eqD_int (by first | omega | (intro hg; simp at hg; omega) | (simp; done) | (simp_all; done) | (simp_all; omega) | grind)) hS
      replace hS := sl_obj (o := .map (.one .i64) (fun _ => none)) 2 (.map (.one .i64) (mapO (mpL l 0))) (by kernel_rfl) (congrArg (O.map (.one .i64)) (a₁ := (fun _ => none)) (a₂ := (mapO (mpL l 0))) (by exact mpL_0 l)) hS
      exact sl_weak (vc := []) [0, 1, 2] [1, 3, 4, 20, 21, 22] (by kernel_rfl) trivial hS
    · intro z hz
      revert z; intro k hz
      have hz : (k ≤ l.Accept.length) := hz
      have hi0_0 := hz
      have hok : check l = 0 := by omega
      obtain ⟨f1, f2, f3, f4⟩ := check_facts hok
      refine tr_seq ?_
      refine tr_r (vc := []) (E' := [(1, none, .ref 0 []), (3, none, .own 1), (4, none, .own 2), (20, none, .p ((eL eB 1 false) l.Accept)), (21, none, vint .i64 ((l.Accept.length : Nat) : Int)), (22, none, vint .i64 ((k : Nat) : Int)), (23, none, vbool (decide (((k : Nat) : Int) < ((l.Accept.length : Nat) : Int))))]) (H' := [.box (.p (eLang l)), .map (.one .i64) (setMap (fun _ => none) ([0] : List Int) (.v (.bool true))), .map (.one .i64) (mapO (mpL l k))]) [] [] [1, 3, 4, 20, 21, 22, 23] (by kernel_rfl) ?_ ?_
      · exact trivial
      refine tr_then ?_
      refine tr_seq ?_
      refine tr_condP (decide (((k : Nat) : Int) < ((l.Accept.length : Nat) : Int))) (((k : Nat) : Int) < ((l.Accept.length : Nat) : Int)) (by simp) (by kernel_rfl) (fun hc2 => ?_) (fun hc2 => ?_)
      · skip
        refine tr_skip ?_
        refine tr_then ?_
        refine tr_seq ?_
        refine tr_block ?_
        refine tr_seq ?_
        refine tr_r (vc := [(0 : Int) ≤ ((k : Nat) : Int), ((k : Nat) : Int) < (l.Accept.length : Int)]) (E' := [(1, none, .ref 0 []), (3, none, .own 1), (4, none, .own 2), (5, none, vint .i64 ((k : Nat) : Int)), (6, none, vbool (l.Accept.getD k false)), (20, none, .p ((eL eB 1 false) l.Accept)), (21, none, vint .i64 ((l.Accept.length : Nat) : Int)), (22, none, vint .i64 ((k : Nat) : Int))]) (H' := [.box (.p (eLang l)), .map (.one .i64) (setMap (fun _ => none) ([0] : List Int) (.v (.bool true))), .map (.one .i64) (mapO (mpL l k))]) [] [] [1, 3, 4, 5, 6, 20, 21, 22] (by kernel_rfl) ?_ ?_
        · refine al ?_ (al ?_ (trivial))
          · first | omega | (intro hg; simp at hg; omega) | (simp; done) | (simp_all; done) | (simp_all; omega) | grind
          · first | omega | (intro hg; simp at hg; omega) | (simp; done) | (simp_all; done) | (simp_all; omega) | grind
        refine tr_then ?_
        refine tr_r (vc := []) (E' := [(1, none, .ref 0 []), (3, none, .own 1), (4, none, .own 2), (20, none, .p ((eL eB 1 false) l.Accept)), (21, none, vint .i64 ((l.Accept.length : Nat) : Int)), (22, none, vint .i64 ((k : Nat) : Int))]) (H' := [.box (.p (eLang l)), .map (.one .i64) (setMap (fun _ => none) ([0] : List Int) (.v (.bool true))), .map (.one .i64) (setMap (mapO (mpL l k)) ([((k : Nat) : Int)] : List Int) (.v (.bool (l.Accept.getD k false))))]) [] [] [1, 3, 4, 20, 21, 22] (by kernel_rfl) ?_ ?_
        · exact trivial
        refine in_n ?_
        refine tr_then ?_
        refine tr_r (vc := [(IntKind.wrap .i64 (((k : Nat) : Int) + 1)) = (((k + 1) : Nat) : Int)]) (E' := [(1, none, .ref 0 []), (3, none, .own 1), (4, none, .own 2), (20, none, .p ((eL eB 1 false) l.Accept)), (21, none, vint .i64 ((l.Accept.length : Nat) : Int)), (22, none, vint .i64 (((k + 1) : Nat) : Int))]) (H' := [.box (.p (eLang l)), .map (.one .i64) (setMap (fun _ => none) ([0] : List Int) (.v (.bool true))), .map (.one .i64) (setMap (mapO (mpL l k)) ([((k : Nat) : Int)] : List Int) (.v (.bool (l.Accept.getD k false))))]) [(0, vint .i64 (((k + 1) : Nat) : Int))] [] [1, 3, 4, 20, 21, 22] (by kernel_rfl) ?_ ?_
        · refine al ?_ (trivial)
          · exact wr64 (by omega) (by omega) (by omega)
        refine lp_end (k + 1) ?_ ?_ ?_
        · show ((k + 1) ≤ l.Accept.length)
          · first | omega | (intro hg; simp at hg; omega) | (simp; done) | (simp_all; done) | (simp_all; omega) | grind
        · show l.Accept.length - (k + 1) < l.Accept.length - k
          omega
        · intro A_ W_ hS
          replace hS := sl_obj (o := .map (.one .i64) (setMap (mapO (mpL l k)) ([((k : Nat) : Int)] : List Int) (.v (.bool (l.Accept.getD k false))))) 2 (.map (.one .i64) (mapO (mpL l (k + 1)))) (by kernel_rfl) (congrArg (O.map (.one .i64)) (a₁ := (setMap (mapO (mpL l k)) ([((k : Nat) : Int)] : List Int) (.v (.bool (l.Accept.getD k false))))) (a₂ := (mapO (mpL l (k + 1)))) (by exact mpL_s l k)) hS
          exact sl_weak (vc := []) [0, 1, 2] [1, 3, 4, 20, 21, 22] (by kernel_rfl) trivial hS
      · skip
        refine tr_exit ?_
        refine th_e ?_
        refine th_e ?_
        refine in_hit ?_
        refine tr_then ?_
        refine tr_seq ?_
        refine tr_seq ?_
        refine tr_r (vc := []) (E' := [(1, none, .ref 0 []), (3, none, .own 1), (4, none, .own 2), (33, none, vint .i64 ((l.Accept.length : Nat) : Int)), (34, none, vint .i64 0)]) (H' := [.box (.p (eLang l)), .map (.one .i64) (setMap (fun _ => none) ([0] : List Int) (.v (.bool true))), .map (.one .i64) (mapO (mpL l k))]) [] [] [1, 3, 4, 33, 34] (by kernel_rfl) ?_ ?_
        · exact trivial
        refine tr_then ?_
        refine tr_block ?_
        refine tr_loop (α := Nat) (fun z : Nat => (fun (r : Nat) => [(1, none, .ref 0 []), (3, none, .own 1), (4, none, .own 2), (33, none, vint .i64 ((l.Accept.length : Nat) : Int)), (34, none, vint .i64 ((r : Nat) : Int))]) z) (fun z : Nat => (fun (r : Nat) => [.box (.p (eLang l)), .map (.one .i64) (mapO (allL l r).1), .map (.one .i64) (mapO (allL l r).2)]) z) (fun z : Nat => (fun (r : Nat) => (r ≤ l.Accept.length)) z) (fun z : Nat => (fun (r : Nat) => l.Accept.length - r) z) 0 ?_ ?_ ?_
        · show (0 ≤ l.Accept.length)
          · first | omega | (intro hg; simp at hg; omega) | (simp; done) | (simp_all; done) | (simp_all; omega) | grind
        · intro A_ W_ hS
          replace hS := sl_set (d := vint .i64 0) 34 (vint .i64 ((0 : Nat) : Int)) (by kernel_rfl) (eqD_int (by first | omega | (intro hg; simp at hg; omega) | (simp; done) | (simp_all; done) | (simp_all; omega) | grind)) hS
          replace hS := sl_obj (o := .map (.one .i64) (setMap (fun _ => none) ([0] : List Int) (.v (.bool true)))) 1 (.map (.one .i64) (mapO (allL l 0).1)) (by kernel_rfl) (congrArg (O.map (.one .i64)) (a₁ := (setMap (fun _ => none) ([0] : List Int) (.v (.bool true)))) (a₂ := (mapO (allL l 0).1)) (by exact mp0_eq)) hS
          replace hS := sl_obj (o := .map (.one .i64) (mapO (mpL l k))) 2 (.map (.one .i64) (mapO (allL l 0).2)) (by kernel_rfl) (congrArg (O.map (.one .i64)) (a₁ := (mapO (mpL l k))) (a₂ := (mapO (allL l 0).2)) (by rw [show k = l.Accept.length by omega]; rfl)) hS
          exact sl_weak (vc := []) [0, 1, 2] [1, 3, 4, 33, 34] (by kernel_rfl) trivial hS
        · intro z hz
          revert z; intro r hz
          have hz : (r ≤ l.Accept.length) := hz
          have hi1_0 := hz
          have hok : check l = 0 := by omega
          obtain ⟨f1, f2, f3, f4⟩ := check_facts hok
          refine tr_seq ?_
          refine tr_r (vc := []) (E' := [(1, none, .ref 0 []), (3, none, .own 1), (4, none, .own 2), (33, none, vint .i64 ((l.Accept.length : Nat) : Int)), (34, none, vint .i64 ((r : Nat) : Int)), (35, none, vbool (decide (((r : Nat) : Int) < ((l.Accept.length : Nat) : Int))))]) (H' := [.box (.p (eLang l)), .map (.one .i64) (mapO (allL l r).1), .map (.one .i64) (mapO (allL l r).2)]) [] [] [1, 3, 4, 33, 34, 35] (by kernel_rfl) ?_ ?_
          · exact trivial
          refine tr_then ?_
          refine tr_seq ?_
          refine tr_condP (decide (((r : Nat) : Int) < ((l.Accept.length : Nat) : Int))) (((r : Nat) : Int) < ((l.Accept.length : Nat) : Int)) (by simp) (by kernel_rfl) (fun hc3 => ?_) (fun hc3 => ?_)
          · skip
            refine tr_skip ?_
            refine tr_then ?_
            refine tr_seq ?_
            refine tr_block ?_
            refine tr_seq ?_
            refine tr_r (vc := []) (E' := [(1, none, .ref 0 []), (3, none, .own 1), (4, none, .own 2), (33, none, vint .i64 ((l.Accept.length : Nat) : Int)), (34, none, vint .i64 ((r : Nat) : Int)), (37, none, .p ((eL (eL eI 1 0) 1 []) l.Next)), (38, none, vint .i64 ((l.Next.length : Nat) : Int)), (39, none, vint .i64 0)]) (H' := [.box (.p (eLang l)), .map (.one .i64) (mapO (allL l r).1), .map (.one .i64) (mapO (allL l r).2)]) [] [] [1, 3, 4, 33, 34, 37, 38, 39] (by kernel_rfl) ?_ ?_
            · exact trivial
            refine tr_then ?_
            refine tr_block ?_
            refine tr_loop (α := Nat) (fun z : Nat => (fun (k : Nat) => [(1, none, .ref 0 []), (3, none, .own 1), (4, none, .own 2), (33, none, vint .i64 ((l.Accept.length : Nat) : Int)), (34, none, vint .i64 ((r : Nat) : Int)), (37, none, .p ((eL (eL eI 1 0) 1 []) l.Next)), (38, none, vint .i64 ((l.Next.length : Nat) : Int)), (39, none, vint .i64 ((k : Nat) : Int))]) z) (fun z : Nat => (fun (k : Nat) => [.box (.p (eLang l)), .map (.one .i64) (mapO (rndL l (allL l r) k).1), .map (.one .i64) (mapO (rndL l (allL l r) k).2)]) z) (fun z : Nat => (fun (k : Nat) => (k ≤ l.Next.length)) z) (fun z : Nat => (fun (k : Nat) => l.Next.length - k) z) 0 ?_ ?_ ?_
            · show (0 ≤ l.Next.length)
              · first | omega | (intro hg; simp at hg; omega) | (simp; done) | (simp_all; done) | (simp_all; omega) | grind
            · intro A_ W_ hS
              replace hS := sl_set (d := vint .i64 0) 39 (vint .i64 ((0 : Nat) : Int)) (by kernel_rfl) (eqD_int (by first | omega | (intro hg; simp at hg; omega) | (simp; done) | (simp_all; done) | (simp_all; omega) | grind)) hS
              replace hS := sl_obj (o := .map (.one .i64) (mapO (allL l r).1)) 1 (.map (.one .i64) (mapO (rndL l (allL l r) 0).1)) (by kernel_rfl) (congrArg (O.map (.one .i64)) (a₁ := (mapO (allL l r).1)) (a₂ := (mapO (rndL l (allL l r) 0).1)) (by rfl)) hS
              replace hS := sl_obj (o := .map (.one .i64) (mapO (allL l r).2)) 2 (.map (.one .i64) (mapO (rndL l (allL l r) 0).2)) (by kernel_rfl) (congrArg (O.map (.one .i64)) (a₁ := (mapO (allL l r).2)) (a₂ := (mapO (rndL l (allL l r) 0).2)) (by rfl)) hS
              exact sl_weak (vc := []) [0, 1, 2] [1, 3, 4, 33, 34, 37, 38, 39] (by kernel_rfl) trivial hS
            · intro z hz
              revert z; intro k hz
              have hz : (k ≤ l.Next.length) := hz
              have hi2_0 := hz
              have hrow := f4 k
              refine tr_seq ?_
              refine tr_r (vc := []) (E' := [(1, none, .ref 0 []), (3, none, .own 1), (4, none, .own 2), (33, none, vint .i64 ((l.Accept.length : Nat) : Int)), (34, none, vint .i64 ((r : Nat) : Int)), (37, none, .p ((eL (eL eI 1 0) 1 []) l.Next)), (38, none, vint .i64 ((l.Next.length : Nat) : Int)), (39, none, vint .i64 ((k : Nat) : Int)), (40, none, vbool (decide (((k : Nat) : Int) < ((l.Next.length : Nat) : Int))))]) (H' := [.box (.p (eLang l)), .map (.one .i64) (mapO (rndL l (allL l r) k).1), .map (.one .i64) (mapO (rndL l (allL l r) k).2)]) [] [] [1, 3, 4, 33, 34, 37, 38, 39, 40] (by kernel_rfl) ?_ ?_
              · exact trivial
              refine tr_then ?_
              refine tr_seq ?_
              refine tr_condP (decide (((k : Nat) : Int) < ((l.Next.length : Nat) : Int))) (((k : Nat) : Int) < ((l.Next.length : Nat) : Int)) (by simp) (by kernel_rfl) (fun hc4 => ?_) (fun hc4 => ?_)
              · skip
                refine tr_skip ?_
                refine tr_then ?_
                refine tr_seq ?_
                refine tr_block ?_
                refine tr_seq ?_
                refine tr_r (vc := [(0 : Int) ≤ ((k : Nat) : Int), ((k : Nat) : Int) < (l.Next.length : Int)]) (E' := [(1, none, .ref 0 []), (3, none, .own 1), (4, none, .own 2), (7, none, vint .i64 ((k : Nat) : Int)), (8, none, .p ((eL eI 1 0) (l.Next.getD k []))), (33, none, vint .i64 ((l.Accept.length : Nat) : Int)), (34, none, vint .i64 ((r : Nat) : Int)), (37, none, .p ((eL (eL eI 1 0) 1 []) l.Next)), (38, none, vint .i64 ((l.Next.length : Nat) : Int)), (39, none, vint .i64 ((k : Nat) : Int))]) (H' := [.box (.p (eLang l)), .map (.one .i64) (mapO (rndL l (allL l r) k).1), .map (.one .i64) (mapO (rndL l (allL l r) k).2)]) [] [] [1, 3, 4, 7, 8, 33, 34, 37, 38, 39] (by kernel_rfl) ?_ ?_
                · refine al ?_ (al ?_ (trivial))
                  · first | omega | (intro hg; simp at hg; omega) | (simp; done) | (simp_all; done) | (simp_all; omega) | grind
                  · first | omega | (intro hg; simp at hg; omega) | (simp; done) | (simp_all; done) | (simp_all; omega) | grind
                refine tr_then ?_
                refine tr_seq ?_
                refine tr_r (vc := []) (E' := [(1, none, .ref 0 []), (3, none, .own 1), (4, none, .own 2), (7, none, vint .i64 ((k : Nat) : Int)), (33, none, vint .i64 ((l.Accept.length : Nat) : Int)), (34, none, vint .i64 ((r : Nat) : Int)), (37, none, .p ((eL (eL eI 1 0) 1 []) l.Next)), (38, none, vint .i64 ((l.Next.length : Nat) : Int)), (39, none, vint .i64 ((k : Nat) : Int)), (44, none, .p ((eL eI 1 0) (l.Next.getD k []))), (45, none, vint .i64 (((l.Next.getD k []).length : Nat) : Int)), (46, none, vint .i64 0)]) (H' := [.box (.p (eLang l)), .map (.one .i64) (mapO (rndL l (allL l r) k).1), .map (.one .i64) (mapO (rndL l (allL l r) k).2)]) [] [] [1, 3, 4, 7, 33, 34, 37, 38, 39, 44, 45, 46] (by kernel_rfl) ?_ ?_
                · exact trivial
                refine tr_then ?_
                refine tr_block ?_
                refine tr_loop (α := Nat) (fun z : Nat => (fun (c : Nat) => [(1, none, .ref 0 []), (3, none, .own 1), (4, none, .own 2), (7, none, vint .i64 ((k : Nat) : Int)), (33, none, vint .i64 ((l.Accept.length : Nat) : Int)), (34, none, vint .i64 ((r : Nat) : Int)), (37, none, .p ((eL (eL eI 1 0) 1 []) l.Next)), (38, none, vint .i64 ((l.Next.length : Nat) : Int)), (39, none, vint .i64 ((k : Nat) : Int)), (44, none, .p ((eL eI 1 0) (l.Next.getD k []))), (45, none, vint .i64 (((l.Next.getD k []).length : Nat) : Int)), (46, none, vint .i64 ((c : Nat) : Int))]) z) (fun z : Nat => (fun (c : Nat) => [.box (.p (eLang l)), .map (.one .i64) (mapO (rowLv l k (rndL l (allL l r) k) c).1), .map (.one .i64) (mapO (rowLv l k (rndL l (allL l r) k) c).2)]) z) (fun z : Nat => (fun (c : Nat) => (c ≤ (l.Next.getD k []).length)) z) (fun z : Nat => (fun (c : Nat) => (l.Next.getD k []).length - c) z) 0 ?_ ?_ ?_
                · show (0 ≤ (l.Next.getD k []).length)
                  · first | omega | (intro hg; simp at hg; omega) | (simp; done) | (simp_all; done) | (simp_all; omega) | grind
                · intro A_ W_ hS
                  replace hS := sl_set (d := vint .i64 0) 46 (vint .i64 ((0 : Nat) : Int)) (by kernel_rfl) (eqD_int (by first | omega | (intro hg; simp at hg; omega) | (simp; done) | (simp_all; done) | (simp_all; omega) | grind)) hS
                  replace hS := sl_obj (o := .map (.one .i64) (mapO (rndL l (allL l r) k).1)) 1 (.map (.one .i64) (mapO (rowLv l k (rndL l (allL l r) k) 0).1)) (by kernel_rfl) (congrArg (O.map (.one .i64)) (a₁ := (mapO (rndL l (allL l r) k).1)) (a₂ := (mapO (rowLv l k (rndL l (allL l r) k) 0).1)) (by rfl)) hS
                  replace hS := sl_obj (o := .map (.one .i64) (mapO (rndL l (allL l r) k).2)) 2 (.map (.one .i64) (mapO (rowLv l k (rndL l (allL l r) k) 0).2)) (by kernel_rfl) (congrArg (O.map (.one .i64)) (a₁ := (mapO (rndL l (allL l r) k).2)) (a₂ := (mapO (rowLv l k (rndL l (allL l r) k) 0).2)) (by rfl)) hS
                  exact sl_weak (vc := []) [0, 1, 2] [1, 3, 4, 7, 33, 34, 37, 38, 39, 44, 45, 46] (by kernel_rfl) trivial hS
                · intro z hz
                  revert z; intro c hz
                  have hz : (c ≤ (l.Next.getD k []).length) := hz
                  have hi3_0 := hz
                  have hw := (hrow (by omega)).1
                  have hr2 := (hrow (by omega)).2 c
                  have ht : toL l k c = (l.Next.getD k []).getD c 0 := rfl
                  refine tr_seq ?_
                  refine tr_r (vc := []) (E' := [(1, none, .ref 0 []), (3, none, .own 1), (4, none, .own 2), (7, none, vint .i64 ((k : Nat) : Int)), (33, none, vint .i64 ((l.Accept.length : Nat) : Int)), (34, none, vint .i64 ((r : Nat) : Int)), (37, none, .p ((eL (eL eI 1 0) 1 []) l.Next)), (38, none, vint .i64 ((l.Next.length : Nat) : Int)), (39, none, vint .i64 ((k : Nat) : Int)), (44, none, .p ((eL eI 1 0) (l.Next.getD k []))), (45, none, vint .i64 (((l.Next.getD k []).length : Nat) : Int)), (46, none, vint .i64 ((c : Nat) : Int)), (47, none, vbool (decide (((c : Nat) : Int) < (((l.Next.getD k []).length : Nat) : Int))))]) (H' := [.box (.p (eLang l)), .map (.one .i64) (mapO (rowLv l k (rndL l (allL l r) k) c).1), .map (.one .i64) (mapO (rowLv l k (rndL l (allL l r) k) c).2)]) [] [] [1, 3, 4, 7, 33, 34, 37, 38, 39, 44, 45, 46, 47] (by kernel_rfl) ?_ ?_
                  · exact trivial
                  refine tr_then ?_
                  refine tr_seq ?_
                  refine tr_condP (decide (((c : Nat) : Int) < (((l.Next.getD k []).length : Nat) : Int))) (((c : Nat) : Int) < (((l.Next.getD k []).length : Nat) : Int)) (by simp) (by kernel_rfl) (fun hc5 => ?_) (fun hc5 => ?_)
                  · skip
                    refine tr_skip ?_
                    refine tr_then ?_
                    refine tr_seq ?_
                    refine tr_block ?_
                    refine tr_seq ?_
                    refine tr_r (vc := [(0 : Int) ≤ ((c : Nat) : Int), ((c : Nat) : Int) < ((l.Next.getD k []).length : Int), ((l.Next.getD k []).getD c 0) = (toL l k c)]) (E' := [(1, none, .ref 0 []), (3, none, .own 1), (4, none, .own 2), (7, none, vint .i64 ((k : Nat) : Int)), (10, none, vint .i64 (toL l k c)), (33, none, vint .i64 ((l.Accept.length : Nat) : Int)), (34, none, vint .i64 ((r : Nat) : Int)), (37, none, .p ((eL (eL eI 1 0) 1 []) l.Next)), (38, none, vint .i64 ((l.Next.length : Nat) : Int)), (39, none, vint .i64 ((k : Nat) : Int)), (44, none, .p ((eL eI 1 0) (l.Next.getD k []))), (45, none, vint .i64 (((l.Next.getD k []).length : Nat) : Int)), (46, none, vint .i64 ((c : Nat) : Int))]) (H' := [.box (.p (eLang l)), .map (.one .i64) (mapO (rowLv l k (rndL l (allL l r) k) c).1), .map (.one .i64) (mapO (rowLv l k (rndL l (allL l r) k) c).2)]) [(2, vint .i64 (toL l k c))] [] [1, 3, 4, 7, 10, 33, 34, 37, 38, 39, 44, 45, 46] (by kernel_rfl) ?_ ?_
                    · refine al ?_ (al ?_ (al ?_ (trivial)))
                      · first | omega | (intro hg; simp at hg; omega) | (simp; done) | (simp_all; done) | (simp_all; omega) | grind
                      · first | omega | (intro hg; simp at hg; omega) | (simp; done) | (simp_all; done) | (simp_all; omega) | grind
                      · first | omega | (intro hg; simp at hg; omega) | (simp; done) | (simp_all; done) | (simp_all; omega) | grind
                    refine tr_then ?_
                    refine tr_seq ?_
                    refine tr_r (vc := []) (E' := [(1, none, .ref 0 []), (3, none, .own 1), (4, none, .own 2), (7, none, vint .i64 ((k : Nat) : Int)), (10, none, vint .i64 (toL l k c)), (33, none, vint .i64 ((l.Accept.length : Nat) : Int)), (34, none, vint .i64 ((r : Nat) : Int)), (37, none, .p ((eL (eL eI 1 0) 1 []) l.Next)), (38, none, vint .i64 ((l.Next.length : Nat) : Int)), (39, none, vint .i64 ((k : Nat) : Int)), (44, none, .p ((eL eI 1 0) (l.Next.getD k []))), (45, none, vint .i64 (((l.Next.getD k []).length : Nat) : Int)), (46, none, vint .i64 ((c : Nat) : Int)), (51, none, vbool (decide (0 ≤ (toL l k c))))]) (H' := [.box (.p (eLang l)), .map (.one .i64) (mapO (rowLv l k (rndL l (allL l r) k) c).1), .map (.one .i64) (mapO (rowLv l k (rndL l (allL l r) k) c).2)]) [] [] [1, 3, 4, 7, 10, 33, 34, 37, 38, 39, 44, 45, 46, 51] (by kernel_rfl) ?_ ?_
                    · exact trivial
                    refine tr_then ?_
                    refine tr_condP (decide (0 ≤ (toL l k c))) (0 ≤ (toL l k c)) (by simp) (by kernel_rfl) (fun hc6 => ?_) (fun hc6 => ?_)
                    · skip
                      refine tr_seq ?_
                      refine tr_r (vc := [eqD (.p (((mapO (rowLv l k (rndL l (allL l r) k) c).1) ([(toL l k c)] : List Int)).getD (.v (.bool false)))) (vbool (gb (rowLv l k (rndL l (allL l r) k) c).1 (toL l k c).toNat)), (!(gb (rowLv l k (rndL l (allL l r) k) c).1 (toL l k c).toNat)) = true → (!(gb (rowLv l k (rndL l (allL l r) k) c).1 (toL l k c).toNat)) = true, (!(gb (rowLv l k (rndL l (allL l r) k) c).1 (toL l k c).toNat)) = true → (!(gb (rowLv l k (rndL l (allL l r) k) c).1 (toL l k c).toNat)) = true, (!(gb (rowLv l k (rndL l (allL l r) k) c).1 (toL l k c).toNat)) = true → (eqD (.p (((mapO (rowLv l k (rndL l (allL l r) k) c).1) ([((k : Nat) : Int)] : List Int)).getD (.v (.bool false)))) (vbool (gb (rowLv l k (rndL l (allL l r) k) c).1 k))), (!(gb (rowLv l k (rndL l (allL l r) k) c).1 (toL l k c).toNat)) = true → (!(gb (rowLv l k (rndL l (allL l r) k) c).1 (toL l k c).toNat)) = true]) (E' := [(1, none, .ref 0 []), (3, none, .own 1), (4, none, .own 2), (7, none, vint .i64 ((k : Nat) : Int)), (10, none, vint .i64 (toL l k c)), (33, none, vint .i64 ((l.Accept.length : Nat) : Int)), (34, none, vint .i64 ((r : Nat) : Int)), (37, none, .p ((eL (eL eI 1 0) 1 []) l.Next)), (38, none, vint .i64 ((l.Next.length : Nat) : Int)), (39, none, vint .i64 ((k : Nat) : Int)), (44, none, .p ((eL eI 1 0) (l.Next.getD k []))), (45, none, vint .i64 (((l.Next.getD k []).length : Nat) : Int)), (46, none, vint .i64 ((c : Nat) : Int))]) (H' := [.box (.p (eLang l)), .map (.one .i64) (setMap (mapO (rowLv l k (rndL l (allL l r) k) c).1) ([(toL l k c)] : List Int) (.v (.bool ((gb (rowLv l k (rndL l (allL l r) k) c).1 (toL l k c).toNat) || (gb (rowLv l k (rndL l (allL l r) k) c).1 k))))), .map (.one .i64) (mapO (rowLv l k (rndL l (allL l r) k) c).2)]) [(4, vbool (gb (rowLv l k (rndL l (allL l r) k) c).1 (toL l k c).toNat)), (8, vbool (gb (rowLv l k (rndL l (allL l r) k) c).1 k))] [] [1, 3, 4, 7, 10, 33, 34, 37, 38, 39, 44, 45, 46] (by kernel_rfl) ?_ ?_
                      · refine al ?_ (al ?_ (al ?_ (al ?_ (al ?_ (trivial)))))
                        · exact mapO_get _ _ hc6
                        · exact id
                        · exact id
                        · intro _; exact mapO_get _ _ (by omega)
                        · exact id
                      refine tr_then ?_
                      refine tr_r (vc := [eqD (.p (((mapO (rowLv l k (rndL l (allL l r) k) c).2) ([((k : Nat) : Int)] : List Int)).getD (.v (.bool false)))) (vbool (gb (rowLv l k (rndL l (allL l r) k) c).2 k)), (!(gb (rowLv l k (rndL l (allL l r) k) c).2 k)) = true → (!(gb (rowLv l k (rndL l (allL l r) k) c).2 k)) = true, (!(gb (rowLv l k (rndL l (allL l r) k) c).2 k)) = true → (!(gb (rowLv l k (rndL l (allL l r) k) c).2 k)) = true, (!(gb (rowLv l k (rndL l (allL l r) k) c).2 k)) = true → (eqD (.p (((mapO (rowLv l k (rndL l (allL l r) k) c).2) ([(toL l k c)] : List Int)).getD (.v (.bool false)))) (vbool (gb (rowLv l k (rndL l (allL l r) k) c).2 (toL l k c).toNat))), (!(gb (rowLv l k (rndL l (allL l r) k) c).2 k)) = true → (!(gb (rowLv l k (rndL l (allL l r) k) c).2 k)) = true]) (E' := [(1, none, .ref 0 []), (3, none, .own 1), (4, none, .own 2), (7, none, vint .i64 ((k : Nat) : Int)), (33, none, vint .i64 ((l.Accept.length : Nat) : Int)), (34, none, vint .i64 ((r : Nat) : Int)), (37, none, .p ((eL (eL eI 1 0) 1 []) l.Next)), (38, none, vint .i64 ((l.Next.length : Nat) : Int)), (39, none, vint .i64 ((k : Nat) : Int)), (44, none, .p ((eL eI 1 0) (l.Next.getD k []))), (45, none, vint .i64 (((l.Next.getD k []).length : Nat) : Int)), (46, none, vint .i64 ((c : Nat) : Int))]) (H' := [.box (.p (eLang l)), .map (.one .i64) (setMap (mapO (rowLv l k (rndL l (allL l r) k) c).1) ([(toL l k c)] : List Int) (.v (.bool ((gb (rowLv l k (rndL l (allL l r) k) c).1 (toL l k c).toNat) || (gb (rowLv l k (rndL l (allL l r) k) c).1 k))))), .map (.one .i64) (setMap (mapO (rowLv l k (rndL l (allL l r) k) c).2) ([((k : Nat) : Int)] : List Int) (.v (.bool ((gb (rowLv l k (rndL l (allL l r) k) c).2 k) || (gb (rowLv l k (rndL l (allL l r) k) c).2 (toL l k c).toNat)))))]) [(4, vbool (gb (rowLv l k (rndL l (allL l r) k) c).2 k)), (8, vbool (gb (rowLv l k (rndL l (allL l r) k) c).2 (toL l k c).toNat))] [] [1, 3, 4, 7, 33, 34, 37, 38, 39, 44, 45, 46] (by kernel_rfl) ?_ ?_
                      · refine al ?_ (al ?_ (al ?_ (al ?_ (al ?_ (trivial)))))
                        · exact mapO_get _ _ (by omega)
                        · exact id
                        · exact id
                        · intro _; exact mapO_get _ _ hc6
                        · exact id
                      refine in_n ?_
                      refine tr_then ?_
                      refine tr_r (vc := [(IntKind.wrap .i64 (((c : Nat) : Int) + 1)) = (((c + 1) : Nat) : Int)]) (E' := [(1, none, .ref 0 []), (3, none, .own 1), (4, none, .own 2), (7, none, vint .i64 ((k : Nat) : Int)), (33, none, vint .i64 ((l.Accept.length : Nat) : Int)), (34, none, vint .i64 ((r : Nat) : Int)), (37, none, .p ((eL (eL eI 1 0) 1 []) l.Next)), (38, none, vint .i64 ((l.Next.length : Nat) : Int)), (39, none, vint .i64 ((k : Nat) : Int)), (44, none, .p ((eL eI 1 0) (l.Next.getD k []))), (45, none, vint .i64 (((l.Next.getD k []).length : Nat) : Int)), (46, none, vint .i64 (((c + 1) : Nat) : Int))]) (H' := [.box (.p (eLang l)), .map (.one .i64) (setMap (mapO (rowLv l k (rndL l (allL l r) k) c).1) ([(toL l k c)] : List Int) (.v (.bool ((gb (rowLv l k (rndL l (allL l r) k) c).1 (toL l k c).toNat) || (gb (rowLv l k (rndL l (allL l r) k) c).1 k))))), .map (.one .i64) (setMap (mapO (rowLv l k (rndL l (allL l r) k) c).2) ([((k : Nat) : Int)] : List Int) (.v (.bool ((gb (rowLv l k (rndL l (allL l r) k) c).2 k) || (gb (rowLv l k (rndL l (allL l r) k) c).2 (toL l k c).toNat)))))]) [(0, vint .i64 (((c + 1) : Nat) : Int))] [] [1, 3, 4, 7, 33, 34, 37, 38, 39, 44, 45, 46] (by kernel_rfl) ?_ ?_
                      · refine al ?_ (trivial)
                        · exact wr64 (by omega) (by omega) (by omega)
                      refine lp_end (c + 1) ?_ ?_ ?_
                      · show ((c + 1) ≤ (l.Next.getD k []).length)
                        · first | omega | (intro hg; simp at hg; omega) | (simp; done) | (simp_all; done) | (simp_all; omega) | grind
                      · show (l.Next.getD k []).length - (c + 1) < (l.Next.getD k []).length - c
                        omega
                      · intro A_ W_ hS
                        replace hS := sl_obj (o := .map (.one .i64) (setMap (mapO (rowLv l k (rndL l (allL l r) k) c).1) ([(toL l k c)] : List Int) (.v (.bool ((gb (rowLv l k (rndL l (allL l r) k) c).1 (toL l k c).toNat) || (gb (rowLv l k (rndL l (allL l r) k) c).1 k)))))) 1 (.map (.one .i64) (mapO (rowLv l k (rndL l (allL l r) k) (c + 1)).1)) (by kernel_rfl) (congrArg (O.map (.one .i64)) (a₁ := (setMap (mapO (rowLv l k (rndL l (allL l r) k) c).1) ([(toL l k c)] : List Int) (.v (.bool ((gb (rowLv l k (rndL l (allL l r) k) c).1 (toL l k c).toNat) || (gb (rowLv l k (rndL l (allL l r) k) c).1 k)))))) (a₂ := (mapO (rowLv l k (rndL l (allL l r) k) (c + 1)).1)) (by first | (rw [rowLv, cellL, if_pos hc6]; exact mapO_put _ _ _ (by omega)) | (rw [rowLv, cellL, if_neg hc6]))) hS
                        replace hS := sl_obj (o := .map (.one .i64) (setMap (mapO (rowLv l k (rndL l (allL l r) k) c).2) ([((k : Nat) : Int)] : List Int) (.v (.bool ((gb (rowLv l k (rndL l (allL l r) k) c).2 k) || (gb (rowLv l k (rndL l (allL l r) k) c).2 (toL l k c).toNat)))))) 2 (.map (.one .i64) (mapO (rowLv l k (rndL l (allL l r) k) (c + 1)).2)) (by kernel_rfl) (congrArg (O.map (.one .i64)) (a₁ := (setMap (mapO (rowLv l k (rndL l (allL l r) k) c).2) ([((k : Nat) : Int)] : List Int) (.v (.bool ((gb (rowLv l k (rndL l (allL l r) k) c).2 k) || (gb (rowLv l k (rndL l (allL l r) k) c).2 (toL l k c).toNat)))))) (a₂ := (mapO (rowLv l k (rndL l (allL l r) k) (c + 1)).2)) (by first | (rw [rowLv, cellL, if_pos hc6]; exact mapO_put _ _ _ (by omega)) | (rw [rowLv, cellL, if_neg hc6]))) hS
                        exact sl_weak (vc := []) [0, 1, 2] [1, 3, 4, 7, 33, 34, 37, 38, 39, 44, 45, 46] (by kernel_rfl) trivial hS
                    · skip
                      refine tr_skip ?_
                      refine in_n ?_
                      refine tr_then ?_
                      refine tr_r (vc := [(IntKind.wrap .i64 (((c : Nat) : Int) + 1)) = (((c + 1) : Nat) : Int)]) (E' := [(1, none, .ref 0 []), (3, none, .own 1), (4, none, .own 2), (7, none, vint .i64 ((k : Nat) : Int)), (33, none, vint .i64 ((l.Accept.length : Nat) : Int)), (34, none, vint .i64 ((r : Nat) : Int)), (37, none, .p ((eL (eL eI 1 0) 1 []) l.Next)), (38, none, vint .i64 ((l.Next.length : Nat) : Int)), (39, none, vint .i64 ((k : Nat) : Int)), (44, none, .p ((eL eI 1 0) (l.Next.getD k []))), (45, none, vint .i64 (((l.Next.getD k []).length : Nat) : Int)), (46, none, vint .i64 (((c + 1) : Nat) : Int))]) (H' := [.box (.p (eLang l)), .map (.one .i64) (mapO (rowLv l k (rndL l (allL l r) k) c).1), .map (.one .i64) (mapO (rowLv l k (rndL l (allL l r) k) c).2)]) [(0, vint .i64 (((c + 1) : Nat) : Int))] [] [1, 3, 4, 7, 33, 34, 37, 38, 39, 44, 45, 46] (by kernel_rfl) ?_ ?_
                      · refine al ?_ (trivial)
                        · exact wr64 (by omega) (by omega) (by omega)
                      refine lp_end (c + 1) ?_ ?_ ?_
                      · show ((c + 1) ≤ (l.Next.getD k []).length)
                        · first | omega | (intro hg; simp at hg; omega) | (simp; done) | (simp_all; done) | (simp_all; omega) | grind
                      · show (l.Next.getD k []).length - (c + 1) < (l.Next.getD k []).length - c
                        omega
                      · intro A_ W_ hS
                        replace hS := sl_obj (o := .map (.one .i64) (mapO (rowLv l k (rndL l (allL l r) k) c).1)) 1 (.map (.one .i64) (mapO (rowLv l k (rndL l (allL l r) k) (c + 1)).1)) (by kernel_rfl) (congrArg (O.map (.one .i64)) (a₁ := (mapO (rowLv l k (rndL l (allL l r) k) c).1)) (a₂ := (mapO (rowLv l k (rndL l (allL l r) k) (c + 1)).1)) (by first | (rw [rowLv, cellL, if_pos hc6]; exact mapO_put _ _ _ (by omega)) | (rw [rowLv, cellL, if_neg hc6]))) hS
                        replace hS := sl_obj (o := .map (.one .i64) (mapO (rowLv l k (rndL l (allL l r) k) c).2)) 2 (.map (.one .i64) (mapO (rowLv l k (rndL l (allL l r) k) (c + 1)).2)) (by kernel_rfl) (congrArg (O.map (.one .i64)) (a₁ := (mapO (rowLv l k (rndL l (allL l r) k) c).2)) (a₂ := (mapO (rowLv l k (rndL l (allL l r) k) (c + 1)).2)) (by first | (rw [rowLv, cellL, if_pos hc6]; exact mapO_put _ _ _ (by omega)) | (rw [rowLv, cellL, if_neg hc6]))) hS
                        exact sl_weak (vc := []) [0, 1, 2] [1, 3, 4, 7, 33, 34, 37, 38, 39, 44, 45, 46] (by kernel_rfl) trivial hS
                  · skip
                    refine tr_exit ?_
                    refine th_e ?_
                    refine th_e ?_
                    refine in_hit ?_
                    refine in_n ?_
                    refine tr_then ?_
                    refine tr_r (vc := [(IntKind.wrap .i64 (((k : Nat) : Int) + 1)) = (((k + 1) : Nat) : Int)]) (E' := [(1, none, .ref 0 []), (3, none, .own 1), (4, none, .own 2), (33, none, vint .i64 ((l.Accept.length : Nat) : Int)), (34, none, vint .i64 ((r : Nat) : Int)), (37, none, .p ((eL (eL eI 1 0) 1 []) l.Next)), (38, none, vint .i64 ((l.Next.length : Nat) : Int)), (39, none, vint .i64 (((k + 1) : Nat) : Int))]) (H' := [.box (.p (eLang l)), .map (.one .i64) (mapO (rowLv l k (rndL l (allL l r) k) c).1), .map (.one .i64) (mapO (rowLv l k (rndL l (allL l r) k) c).2)]) [(0, vint .i64 (((k + 1) : Nat) : Int))] [] [1, 3, 4, 33, 34, 37, 38, 39] (by kernel_rfl) ?_ ?_
                    · refine al ?_ (trivial)
                      · exact wr64 (by omega) (by omega) (by omega)
                    refine lp_end (k + 1) ?_ ?_ ?_
                    · show ((k + 1) ≤ l.Next.length)
                      · first | omega | (intro hg; simp at hg; omega) | (simp; done) | (simp_all; done) | (simp_all; omega) | grind
                    · show l.Next.length - (k + 1) < l.Next.length - k
                      omega
                    · intro A_ W_ hS
                      replace hS := sl_obj (o := .map (.one .i64) (mapO (rowLv l k (rndL l (allL l r) k) c).1)) 1 (.map (.one .i64) (mapO (rndL l (allL l r) (k + 1)).1)) (by kernel_rfl) (congrArg (O.map (.one .i64)) (a₁ := (mapO (rowLv l k (rndL l (allL l r) k) c).1)) (a₂ := (mapO (rndL l (allL l r) (k + 1)).1)) (by rw [show c = (l.Next.getD k []).length by omega]; rfl)) hS
                      replace hS := sl_obj (o := .map (.one .i64) (mapO (rowLv l k (rndL l (allL l r) k) c).2)) 2 (.map (.one .i64) (mapO (rndL l (allL l r) (k + 1)).2)) (by kernel_rfl) (congrArg (O.map (.one .i64)) (a₁ := (mapO (rowLv l k (rndL l (allL l r) k) c).2)) (a₂ := (mapO (rndL l (allL l r) (k + 1)).2)) (by rw [show c = (l.Next.getD k []).length by omega]; rfl)) hS
                      exact sl_weak (vc := []) [0, 1, 2] [1, 3, 4, 33, 34, 37, 38, 39] (by kernel_rfl) trivial hS
              · skip
                refine tr_exit ?_
                refine th_e ?_
                refine th_e ?_
                refine in_hit ?_
                refine in_n ?_
                refine tr_then ?_
                refine tr_r (vc := [(IntKind.wrap .i64 (((r : Nat) : Int) + 1)) = (((r + 1) : Nat) : Int)]) (E' := [(1, none, .ref 0 []), (3, none, .own 1), (4, none, .own 2), (33, none, vint .i64 ((l.Accept.length : Nat) : Int)), (34, none, vint .i64 (((r + 1) : Nat) : Int))]) (H' := [.box (.p (eLang l)), .map (.one .i64) (mapO (rndL l (allL l r) k).1), .map (.one .i64) (mapO (rndL l (allL l r) k).2)]) [(0, vint .i64 (((r + 1) : Nat) : Int))] [] [1, 3, 4, 33, 34] (by kernel_rfl) ?_ ?_
                · refine al ?_ (trivial)
                  · exact wr64 (by omega) (by omega) (by omega)
                refine lp_end (r + 1) ?_ ?_ ?_
                · show ((r + 1) ≤ l.Accept.length)
                  · first | omega | (intro hg; simp at hg; omega) | (simp; done) | (simp_all; done) | (simp_all; omega) | grind
                · show l.Accept.length - (r + 1) < l.Accept.length - r
                  omega
                · intro A_ W_ hS
                  replace hS := sl_obj (o := .map (.one .i64) (mapO (rndL l (allL l r) k).1)) 1 (.map (.one .i64) (mapO (allL l (r + 1)).1)) (by kernel_rfl) (congrArg (O.map (.one .i64)) (a₁ := (mapO (rndL l (allL l r) k).1)) (a₂ := (mapO (allL l (r + 1)).1)) (by rw [show k = l.Next.length by omega]; rfl)) hS
                  replace hS := sl_obj (o := .map (.one .i64) (mapO (rndL l (allL l r) k).2)) 2 (.map (.one .i64) (mapO (allL l (r + 1)).2)) (by kernel_rfl) (congrArg (O.map (.one .i64)) (a₁ := (mapO (rndL l (allL l r) k).2)) (a₂ := (mapO (allL l (r + 1)).2)) (by rw [show k = l.Next.length by omega]; rfl)) hS
                  exact sl_weak (vc := []) [0, 1, 2] [1, 3, 4, 33, 34] (by kernel_rfl) trivial hS
          · skip
            refine tr_exit ?_
            refine th_e ?_
            refine th_e ?_
            refine in_hit ?_
            refine tr_then ?_
            refine tr_seq ?_
            refine tr_r (vc := [(0 : Int) ≤ ((l.Accept.length : Nat) : Int), (((l.Accept.length : Nat) : Int) : Int) ≤ ((l.Accept.length : Nat) : Int), (1 : Int) * ((l.Accept.length : Nat) : Int) ≤ 140737488355328, (((l.Accept.length : Nat) : Int) : Int) ≤ 9223372036854775807]) (E' := [(3, none, .own 1), (4, none, .own 2), (11, none, .own 3)]) (H' := [.box (.p (eLang l)), .map (.one .i64) (mapO (allL l r).1), .map (.one .i64) (mapO (allL l r).2), .arr 4 1 l.Accept.length (fun _ => vbool false)]) [] [] [3, 4, 11] (by kernel_rfl) ?_ ?_
            · refine al ?_ (al ?_ (al ?_ (al ?_ (trivial))))
              · first | omega | (intro hg; simp at hg; omega) | (simp; done) | (simp_all; done) | (simp_all; omega) | grind
              · first | omega | (intro hg; simp at hg; omega) | (simp; done) | (simp_all; done) | (simp_all; omega) | grind
              · first | omega | (intro hg; simp at hg; omega) | (simp; done) | (simp_all; done) | (simp_all; omega) | grind
              · first | omega | (intro hg; simp at hg; omega) | (simp; done) | (simp_all; done) | (simp_all; omega) | grind
            refine nm_pre (E' := [(3, none, .own 1), (4, none, .own 2), (11, none, .own 3)]) (H' := [.box (.p (eLang l)), .map (.one .i64) (mapO (allL l r).1), .map (.one .i64) (mapO (allL l r).2), oL 4 eB 1 false (List.replicate l.Accept.length false)]) (fun A_ W_ hS => sl_arr (n := l.Accept.length) (n' := (List.replicate l.Accept.length false).length) (f := fun _ => vbool false) 3 (fun i => .p (eB ((List.replicate l.Accept.length false).getD i false))) (by kernel_rfl) (by simp) (by exact makeN (e := eB) (d := false)) hS) ?_
            refine tr_then ?_
            refine tr_seq ?_
            refine tr_seq ?_
            refine tr_r (vc := []) (E' := [(3, none, .own 1), (4, none, .own 2), (11, none, .own 3), (80, none, vint .i64 (((List.replicate l.Accept.length false).length : Nat) : Int)), (81, none, vint .i64 0)]) (H' := [.box (.p (eLang l)), .map (.one .i64) (mapO (allL l r).1), .map (.one .i64) (mapO (allL l r).2), oL 4 eB 1 false (List.replicate l.Accept.length false)]) [] [] [3, 4, 11, 80, 81] (by kernel_rfl) ?_ ?_
            · exact trivial
            refine tr_then ?_
            refine tr_block ?_
            refine tr_loop (α := Nat) (fun z : Nat => (fun (q : Nat) => [(3, none, .own 1), (4, none, .own 2), (11, none, .own 3), (80, none, vint .i64 (((List.replicate l.Accept.length false).length : Nat) : Int)), (81, none, vint .i64 ((q : Nat) : Int))]) z) (fun z : Nat => (fun (q : Nat) => [.box (.p (eLang l)), .map (.one .i64) (mapO (allL l r).1), .map (.one .i64) (mapO (allL l r).2), oL 4 eB 1 false (outL l (allL l r) q)]) z) (fun z : Nat => (fun (q : Nat) => (q ≤ l.Accept.length)) z) (fun z : Nat => (fun (q : Nat) => l.Accept.length - q) z) 0 ?_ ?_ ?_
            · show (0 ≤ l.Accept.length)
              · first | omega | (intro hg; simp at hg; omega) | (simp; done) | (simp_all; done) | (simp_all; omega) | grind
            · intro A_ W_ hS
              replace hS := sl_set (d := vint .i64 0) 81 (vint .i64 ((0 : Nat) : Int)) (by kernel_rfl) (eqD_int (by first | omega | (intro hg; simp at hg; omega) | (simp; done) | (simp_all; done) | (simp_all; omega) | grind)) hS
              replace hS := sl_arr (e := 4) (sz := 1) (n := (List.replicate l.Accept.length false).length) (n' := (outL l (allL l r) 0).length) (f := (fun i => .p (eB ((List.replicate l.Accept.length false).getD i false)))) 3 (fun i => .p (eB ((outL l (allL l r) 0).getD i false))) (by kernel_rfl) (by rw [outL_len]; simp) (by intro j hj; rw [outL_0 l (allL l r)]) hS
              exact sl_weak (vc := [∀ i, i < (outL l (allL l r) 0).length → D.p (eB ((outL l (allL l r) 0).getD i false)) = .p (eB ((outL l (allL l r) 0).getD i false))]) [0, 1, 2, 3] [3, 4, 11, 80, 81] (by kernel_rfl) (al (fun _ _ => rfl) trivial) hS
            · intro z hz
              revert z; intro q hz
              have hz : (q ≤ l.Accept.length) := hz
              have hi4_0 := hz
              have hol := outL_len l (allL l r) q
              have hrep : (List.replicate l.Accept.length false).length = l.Accept.length := List.length_replicate
              refine tr_seq ?_
              refine tr_r (vc := []) (E' := [(3, none, .own 1), (4, none, .own 2), (11, none, .own 3), (80, none, vint .i64 (((List.replicate l.Accept.length false).length : Nat) : Int)), (81, none, vint .i64 ((q : Nat) : Int)), (82, none, vbool (decide (((q : Nat) : Int) < (((List.replicate l.Accept.length false).length : Nat) : Int))))]) (H' := [.box (.p (eLang l)), .map (.one .i64) (mapO (allL l r).1), .map (.one .i64) (mapO (allL l r).2), oL 4 eB 1 false (outL l (allL l r) q)]) [] [] [3, 4, 11, 80, 81, 82] (by kernel_rfl) ?_ ?_
              · exact trivial
              refine tr_then ?_
              refine tr_seq ?_
              refine tr_condP (decide (((q : Nat) : Int) < (((List.replicate l.Accept.length false).length : Nat) : Int))) (((q : Nat) : Int) < (((List.replicate l.Accept.length false).length : Nat) : Int)) (by simp) (by kernel_rfl) (fun hc7 => ?_) (fun hc7 => ?_)
              · skip
                refine tr_skip ?_
                refine tr_then ?_
                refine tr_seq ?_
                refine tr_block ?_
                refine tr_seq ?_
                refine tr_r (vc := []) (E' := [(3, none, .own 1), (4, none, .own 2), (11, none, .own 3), (12, none, vint .i64 ((q : Nat) : Int)), (80, none, vint .i64 (((List.replicate l.Accept.length false).length : Nat) : Int)), (81, none, vint .i64 ((q : Nat) : Int))]) (H' := [.box (.p (eLang l)), .map (.one .i64) (mapO (allL l r).1), .map (.one .i64) (mapO (allL l r).2), oL 4 eB 1 false (outL l (allL l r) q)]) [] [] [3, 4, 11, 12, 80, 81] (by kernel_rfl) ?_ ?_
                · exact trivial
                refine tr_then ?_
                refine tr_r (vc := [eqD (.p (((mapO (allL l r).1) ([((q : Nat) : Int)] : List Int)).getD (.v (.bool false)))) (vbool (gb (allL l r).1 q)), (gb (allL l r).1 q) = true → (gb (allL l r).1 q) = true, (gb (allL l r).1 q) = true → (gb (allL l r).1 q) = true, (gb (allL l r).1 q) = true → (eqD (.p (((mapO (allL l r).2) ([((q : Nat) : Int)] : List Int)).getD (.v (.bool false)))) (vbool (gb (allL l r).2 q))), (gb (allL l r).1 q) = true → (gb (allL l r).1 q) = true, (0 : Int) ≤ ((q : Nat) : Int), ((q : Nat) : Int) < ((outL l (allL l r) q).length : Int), q < (outL l (allL l r) q).length]) (E' := [(3, none, .own 1), (4, none, .own 2), (11, none, .own 3), (80, none, vint .i64 (((List.replicate l.Accept.length false).length : Nat) : Int)), (81, none, vint .i64 ((q : Nat) : Int))]) (H' := [.box (.p (eLang l)), .map (.one .i64) (mapO (allL l r).1), .map (.one .i64) (mapO (allL l r).2), .arr 4 1 ((outL l (allL l r) q).length) (upd (fun i => .p (eB ((outL l (allL l r) q).getD i false))) q (vbool ((gb (allL l r).1 q) && (gb (allL l r).2 q))))]) [(4, vbool (gb (allL l r).1 q)), (8, vbool (gb (allL l r).2 q))] [] [3, 4, 11, 80, 81] (by kernel_rfl) ?_ ?_
                · refine al ?_ (al ?_ (al ?_ (al ?_ (al ?_ (al ?_ (al ?_ (al ?_ (trivial))))))))
                  · exact mapO_get _ _ (by omega)
                  · exact id
                  · exact id
                  · intro _; exact mapO_get _ _ (by omega)
                  · exact id
                  · first | omega | (intro hg; simp at hg; omega) | (simp; done) | (simp_all; done) | (simp_all; omega) | grind
                  · first | omega | (intro hg; simp at hg; omega) | (simp; done) | (simp_all; done) | (simp_all; omega) | grind
                  · first | omega | (intro hg; simp at hg; omega) | (simp; done) | (simp_all; done) | (simp_all; omega) | grind
                refine nm_pre (E' := [(3, none, .own 1), (4, none, .own 2), (11, none, .own 3), (80, none, vint .i64 (((List.replicate l.Accept.length false).length : Nat) : Int)), (81, none, vint .i64 ((q : Nat) : Int))]) (H' := [.box (.p (eLang l)), .map (.one .i64) (mapO (allL l r).1), .map (.one .i64) (mapO (allL l r).2), oL 4 eB 1 false ((outL l (allL l r) q).set q ((gb (allL l r).1 q) && (gb (allL l r).2 q)))]) (fun A_ W_ hS => sl_arr (n := ((outL l (allL l r) q).length)) (n' := ((outL l (allL l r) q).set q ((gb (allL l r).1 q) && (gb (allL l r).2 q))).length) (f := upd (fun i => .p (eB ((outL l (allL l r) q).getD i false))) q (vbool ((gb (allL l r).1 q) && (gb (allL l r).2 q)))) 3 (fun i => .p (eB (((outL l (allL l r) q).set q ((gb (allL l r).1 q) && (gb (allL l r).2 q))).getD i false))) (by kernel_rfl) (by simp) (by exact setN) hS) ?_
                refine in_n ?_
                refine tr_then ?_
                refine tr_r (vc := [(IntKind.wrap .i64 (((q : Nat) : Int) + 1)) = (((q + 1) : Nat) : Int)]) (E' := [(3, none, .own 1), (4, none, .own 2), (11, none, .own 3), (80, none, vint .i64 (((List.replicate l.Accept.length false).length : Nat) : Int)), (81, none, vint .i64 (((q + 1) : Nat) : Int))]) (H' := [.box (.p (eLang l)), .map (.one .i64) (mapO (allL l r).1), .map (.one .i64) (mapO (allL l r).2), oL 4 eB 1 false ((outL l (allL l r) q).set q ((gb (allL l r).1 q) && (gb (allL l r).2 q)))]) [(0, vint .i64 (((q + 1) : Nat) : Int))] [] [3, 4, 11, 80, 81] (by kernel_rfl) ?_ ?_
                · refine al ?_ (trivial)
                  · exact wr64 (by omega) (by omega) (by omega)
                refine lp_end (q + 1) ?_ ?_ ?_
                · show ((q + 1) ≤ l.Accept.length)
                  · first | omega | (intro hg; simp at hg; omega) | (simp; done) | (simp_all; done) | (simp_all; omega) | grind
                · show l.Accept.length - (q + 1) < l.Accept.length - q
                  omega
                · intro A_ W_ hS
                  replace hS := sl_arr (e := 4) (sz := 1) (n := ((outL l (allL l r) q).set q ((gb (allL l r).1 q) && (gb (allL l r).2 q))).length) (n' := (outL l (allL l r) (q + 1)).length) (f := (fun i => .p (eB (((outL l (allL l r) q).set q ((gb (allL l r).1 q) && (gb (allL l r).2 q))).getD i false)))) 3 (fun i => .p (eB ((outL l (allL l r) (q + 1)).getD i false))) (by kernel_rfl) (by rw [outL_s _ _ (by omega)]) (by intro j hj; rw [outL_s _ _ (by omega)]) hS
                  exact sl_weak (vc := [∀ i, i < (outL l (allL l r) (q + 1)).length → D.p (eB ((outL l (allL l r) (q + 1)).getD i false)) = .p (eB ((outL l (allL l r) (q + 1)).getD i false))]) [0, 1, 2, 3] [3, 4, 11, 80, 81] (by kernel_rfl) (al (fun _ _ => rfl) trivial) hS
              · skip
                refine tr_exit ?_
                refine th_e ?_
                refine th_e ?_
                refine in_hit ?_
                refine tr_then ?_
                refine tr_seq ?_
                refine tr_r (vc := []) (E' := [(2, none, .own 3)]) (H' := [.box (.p (eLang l)), .map (.one .i64) (mapO (allL l r).1), .map (.one .i64) (mapO (allL l r).2), oL 4 eB 1 false (outL l (allL l r) q)]) [] [] [2] (by kernel_rfl) ?_ ?_
                · exact trivial
                refine tr_then ?_
                refine tr_pre (E' := [(2, none, .own 0)]) (H' := [oL 4 eB 1 false (outL l (allL l r) q)]) (fun A_ W_ hS => sl_weak (vc := [∀ i, i < (outL l (allL l r) q).length → D.p (eB ((outL l (allL l r) q).getD i false)) = .p (eB ((outL l (allL l r) q).getD i false))]) [3] [2] (by kernel_rfl) (al (fun _ _ => rfl) trivial) hS) ?_
                refine tr_pre (E' := [(2, none, .p ((eL eB 1 false) (outL l (allL l r) q)))]) (H' := [.dead]) (fun A_ W_ hS => sl_freeze (vc := [∀ j, j < (outL l (allL l r) q).length → D.p (eB ((outL l (allL l r) q).getD j false)) = .p ((fun j => eB ((outL l (allL l r) q).getD j false)) j)]) 0 (fun j => eB ((outL l (allL l r) q).getD j false)) (by kernel_rfl) (al (fun _ _ => rfl) trivial) hS) ?_
                refine tr_pre (E' := (2, none, .p ((eL eB 1 false) (liveS l))) :: [(2, none, .p ((eL eB 1 false) (outL l (allL l r) q)))]) (H' := [.dead]) (fun A_ W_ hS => sl_set_imp (d := .p ((eL eB 1 false) (outL l (allL l r) q))) 2 (.p ((eL eB 1 false) (liveS l))) (by kernel_rfl) ?_ hS) ?_
                · refine imp_eq (congrArg (fun x => D.p ((eL eB 1 false) x)) (a₁ := (outL l (allL l r) q)) (a₂ := (liveS l)) ?_)
                  rw [liveS, if_neg hc1, liveL, show q = l.Accept.length by omega, show r = l.Accept.length by omega]
                refine tr_pre (E' := [(2, none, .p ((eL eB 1 false) (liveS l)))]) (H' := [.dead]) (fun A_ W_ hS => sl_proj (ts := [2]) (by kernel_rfl) hS) ?_
                exact tr_return' (vc := []) (ds := [.p ((eL eB 1 false) (liveS l))]) (by kernel_rfl) trivial (by kernel_rfl) (fun _ _ h => h)
end Go.Proofs.Ytjnjmnfacaakfaa
namespace Go.Proofs.Ytjnjmnfacaakfaa
open Go.Eng
/-! ### A piece's set is not empty -/
theorem memb_mono : ∀ {k : Nat} {l : List UInt8} {S S' : Nat → Bool} {i : Nat}, memb k l S = some S' → S i = true → S' i = true
  | 0, l, S, S', i, h, hi => by cases h; exact hi
  | k + 1, l, S, S', i, h, hi => by
    have hr : ∀ a b, range S a b i = true := fun a b => by unfold range; rw [hi]; rfl
    unfold memb at h
    split at h
    · cases h; exact hi
    · split at h
      · cases h
      · split at h
        · split at h
          · cases h
          · split at h
            · cases h
            · exact memb_mono h (hr _ _)
        · exact memb_mono h (hr _ _)
theorem memb_first {k : Nat} {l : List UInt8} {S S' : Nat → Bool} (h : memb (k + 1) l S = some S') (hl : l.length ≠ 0) : ∃ c : Nat, c < 37 ∧ S' c = true := by
  unfold memb at h
  rw [if_neg hl] at h
  have q := sym_le ((l.getD 0 0).toNat : Int)
  have e : s0 l = sym ((l.getD 0 0).toNat : Int) := rfl
  split at h
  · cases h
  · rename_i h0
    rw [not_or] at h0
    have hr : ∀ b, s0 l < b → range S (s0 l) b (s0 l).toNat = true := fun b hb => by
      unfold range
      rw [decide_eq_true (by omega), Bool.or_true]
    refine ⟨(s0 l).toNat, by omega, ?_⟩
    split at h
    · split at h
      · cases h
      · split at h
        · cases h
        · rename_i h1
          exact memb_mono h (hr _ (by omega))
    · exact memb_mono h (hr _ (by omega))
theorem classM_ne {b : List UInt8} {S : Nat → Bool} (hb : b ≠ []) (h : classM b = some S) : ∃ c : Nat, c < 37 ∧ S c = true := by
  have hl := List.length_pos_iff.2 hb
  unfold classM at h
  split at h
  · exact ⟨36, by omega, memb_mono h (by unfold upd; rw [if_pos rfl])⟩
  · obtain ⟨k, hk⟩ : ∃ k, b.length = k + 1 := ⟨b.length - 1, by omega⟩
    rw [hk] at h
    exact memb_first h (by omega)
theorem pSet_ne {r q : List UInt8} {S : Nat → Bool} (h : pSet r = some (S, q)) : ∃ c : Nat, c < 37 ∧ S c = true := by
  unfold pSet at h
  split at h
  · unfold classS at h
    split at h
    · cases h
    · rename_i h0
      rw [not_or] at h0
      rw [Option.map_eq_some_iff] at h
      obtain ⟨S', h1, h2⟩ := h
      simp only [Prod.mk.injEq] at h2
      obtain ⟨rfl, _⟩ := h2
      exact classM_ne h0.2 h1
  · split at h
    · rename_i h0
      simp only [Option.some.injEq, Prod.mk.injEq] at h
      obtain ⟨rfl, _⟩ := h
      have := sym_le ((r.getD 0 0).toNat : Int)
      exact ⟨(sym (r.getD 0 0).toNat).toNat, by omega, by unfold upd; rw [if_pos rfl]⟩
    · cases h
/-- Some symbol leads on from here. -/
def Ne1 (p : Place) : Prop := ∃ c : Nat, c < 37 ∧ bitOf p.fSet (c : Int) = true
theorem ne1_of {r : List UInt8} (h : (pSet r).isSome = true) (m : Int) : Ne1 { fSet := cSet (pSet r), fMore := m } := by
  cases hp : pSet r with
  | none => rw [hp] at h; cases h
  | some y =>
    obtain ⟨S, q⟩ := y
    obtain ⟨c, h1, h2⟩ := pSet_ne hp
    exact ⟨c, h1, by show bitOf (word64 S) c = true; rw [bitOf_word (by omega)]; exact h2⟩
theorem parseB_sets : ∀ {k : Nat} {cur : List Place} {r : List UInt8} {bs : List (List Place)}, parseB k cur r = some bs → (∀ p ∈ cur, Ne1 p) → ∀ b ∈ bs, ∃ c, b = c ++ [endP] ∧ ∀ p ∈ c, Ne1 p
  | 0, _, _, _, h, _ => by cases h
  | k + 1, cur, r, bs, h, hc => by
    unfold parseB at h
    split at h
    · split at h
      · cases h
      · split at h
        · cases h
          intro b hb
          simp only [List.mem_singleton] at hb
          exact ⟨cur, hb, hc⟩
        · rw [Option.map_eq_some_iff] at h
          obtain ⟨y, hy, rfl⟩ := h
          intro b hb
          rcases List.mem_cons.1 hb with rfl | hb
          · exact ⟨cur, rfl, hc⟩
          · exact parseB_sets hy (by simp) b hb
    · split at h
      · rename_i hs
        split at h
        · refine parseB_sets h fun p hp => ?_
          simp only [List.mem_append, List.mem_singleton] at hp
          rcases hp with (hp | rfl) | rfl
          · exact hc p hp
          · exact ne1_of hs _
          · exact ne1_of hs _
        · refine parseB_sets h fun p hp => ?_
          simp only [List.mem_append, List.mem_singleton] at hp
          rcases hp with hp | rfl
          · exact hc p hp
          · exact ne1_of hs _
      · cases h
/-- All places lead on, but for ends; the last one is an end. -/
structure Leads (ps : List Place) : Prop where
  each : ∀ p ∈ ps, p = endP ∨ Ne1 p
  last : ∃ x, ps = x ++ [endP]
theorem leads_flat : ∀ {bs : List (List Place)}, bs ≠ [] → (∀ b ∈ bs, ∃ c, b = c ++ [endP] ∧ ∀ p ∈ c, Ne1 p) → Leads bs.flatten
  | [], h, _ => absurd rfl h
  | b :: bs, _, hb => by
    obtain ⟨c, rfl, hc⟩ := hb b (by simp)
    have h0 : ∀ p ∈ c ++ [endP], p = endP ∨ Ne1 p := fun p hp => by
      simp only [List.mem_append, List.mem_singleton] at hp
      exact hp.elim (fun h => .inr (hc p h)) .inl
    by_cases hn : bs = []
    · subst hn
      exact ⟨by simpa using h0, c, by simp⟩
    · obtain ⟨i1, x, i2⟩ := leads_flat hn fun b h => hb b (by simp [h])
      refine ⟨fun p hp => ?_, c ++ [endP] ++ x, by rw [List.flatten_cons, i2]; simp only [List.append_assoc]⟩
      rw [List.flatten_cons, List.mem_append] at hp
      exact hp.elim (h0 p) (i1 p)
theorem leads_acc : ∀ {ps : List Place}, Leads ps → ∃ w, pacc ps w = true
  | [], ⟨_, x, h⟩ => by simp at h
  | p :: ps, ⟨h1, x, h2⟩ => by
    rcases h1 p (by simp) with rfl | ⟨c, hc, hb⟩
    · exact ⟨[], by rw [pacc]; rfl⟩
    · match x, h2 with
      | [], h2 =>
        simp only [List.nil_append, List.cons.injEq] at h2
        obtain ⟨rfl, rfl⟩ := h2
        exact ⟨[], by rw [pacc]; rfl⟩
      | y :: x, h2 =>
        simp only [List.cons_append, List.cons.injEq] at h2
        obtain ⟨w, hw⟩ := leads_acc (ps := ps) ⟨fun p hp => h1 p (by simp [hp]), x, h2.2⟩
        by_cases hm : p.fMore = 0
        · refine ⟨symB c :: w, ?_⟩
          have e := sym_symB hc
          have e2 : sc (symB c) = c := by unfold sc; rw [e]; simp
          rw [pacc, e, e2, hb, if_neg (by rw [hm]; decide), hw]
          simp
        · refine ⟨w, ?_⟩
          cases w with
          | nil => rw [pacc, hw, decide_eq_true hm]; simp
          | cons b w => rw [pacc, hw, decide_eq_true hm]; rfl
theorem Leads.drop {ps : List Place} (h : Leads ps) {i : Nat} (hi : i < ps.length) : Leads (ps.drop i) := by
  obtain ⟨h1, x, rfl⟩ := h
  refine ⟨fun p hp => h1 p (List.mem_of_mem_drop hp), x.drop i, ?_⟩
  simp only [List.length_append, List.length_cons, List.length_nil] at hi
  rw [List.drop_append_of_le_length (by omega)]
theorem Leads.step {ps : List Place} (h : Leads ps) {i c : Nat} (hi : i < ps.length) (hb : bitOf (ps.getD i dPlace).fSet (c : Int) = true) : i + 1 < ps.length := by
  obtain ⟨_, x, rfl⟩ := h
  simp only [List.length_append, List.length_cons, List.length_nil] at hi ⊢
  by_cases hx : i = x.length
  · subst hx
    rw [List.getD_eq_getElem?_getD, List.getElem?_append_right (Nat.le_refl _)] at hb
    simp only [Nat.sub_self, List.getElem?_cons_zero, Option.getD_some] at hb
    have : bitOf endP.fSet (c : Int) = false := bit0 c
    rw [this] at hb; cases hb
  · omega
/-- A set that leads on. -/
def Good (ps : List Place) (m : Nat) : Prop := ∃ S, Bits (closedS ps S) m ∧ ∃ i, i < ps.length ∧ S i = true
theorem good_step {ps : List Place} (hp : ps.length ≤ 127) (hl : Leads ps) {m c : Nat} (hc : c < 37) (h : Good ps m) (hn : (autF ps).none ((autF ps).step m c) = false) : Good ps ((autF ps).step m c) := by
  obtain ⟨S, h1, _⟩ := h
  have hb : Bits (stepS ps (closedS ps S) c) ((autF ps).step m c) := (side_F hp).step _ _ c hc h1
  refine ⟨sp ps (closedS ps S) c ps.length, hb, ?_⟩
  have hne : (autF ps).step m c ≠ 0 := by simpa [autF] using hn
  obtain ⟨i, hi⟩ : ∃ i, ((autF ps).step m c).testBit i = true := by
    refine Classical.byContradiction fun hno => hne ?_
    apply Nat.eq_of_testBit_eq
    intro i
    rw [Nat.zero_testBit]
    cases ht : ((autF ps).step m c).testBit i with
    | false => rfl
    | true => exact absurd ⟨i, ht⟩ hno
  have hi128 : i < 128 := by
    refine Classical.byContradiction fun h => ?_
    have hp2 : 2 ^ 128 ≤ 2 ^ i := Nat.pow_le_pow_right (by omega) (by omega)
    rw [Nat.testBit_lt_two_pow (Nat.lt_of_lt_of_le hb.1 hp2)] at hi
    cases hi
  rw [← hb.2 i hi128] at hi
  obtain ⟨j, _, hj, _⟩ := (closedS_iff i).1 hi
  obtain ⟨i0, b1, b2, b3, rfl⟩ := (sp_iff _ _).1 hj
  refine ⟨_, ?_, hj⟩
  have := hl.step b1 b3
  unfold nxt
  split <;> omega
/-! ### Spreading -/
section
variable {l : Lang} {x : Mp × Mp} {k c i : Nat}
theorem gb_put (M : Mp) (k : Nat) (b : Bool) (i : Nat) : gb (putM M k b) i = if i = k then b else gb M i := by
  unfold gb putM
  split <;> rfl
theorem cell_mono : (gb x.1 i = true → gb (cellL l k c x).1 i = true) ∧ (gb x.2 i = true → gb (cellL l k c x).2 i = true) := by
  unfold cellL
  split
  · simp only [gb_put]
    refine ⟨fun h => ?_, fun h => ?_⟩
    · split
      · rename_i e; rw [← e, h]; rfl
      · exact h
    · split
      · rename_i e; rw [← e, h]; rfl
      · exact h
  · exact ⟨id, id⟩
theorem row_mono : ∀ c, (gb x.1 i = true → gb (rowLv l k x c).1 i = true) ∧ (gb x.2 i = true → gb (rowLv l k x c).2 i = true)
  | 0 => ⟨id, id⟩
  | c + 1 => ⟨fun h => cell_mono.1 ((row_mono c).1 h), fun h => cell_mono.2 ((row_mono c).2 h)⟩
theorem row_le : ∀ {c d : Nat}, c ≤ d → (gb (rowLv l k x c).1 i = true → gb (rowLv l k x d).1 i = true) ∧ (gb (rowLv l k x c).2 i = true → gb (rowLv l k x d).2 i = true)
  | c, 0, h => by obtain rfl : c = 0 := by omega
                  exact ⟨id, id⟩
  | c, d + 1, h => by
    by_cases hc : c = d + 1
    · subst hc; exact ⟨id, id⟩
    · have ih := row_le (c := c) (d := d) (by omega)
      exact ⟨fun h => cell_mono.1 (ih.1 h), fun h => cell_mono.2 (ih.2 h)⟩
theorem rnd_le : ∀ {c d : Nat}, c ≤ d → (gb (rndL l x c).1 i = true → gb (rndL l x d).1 i = true) ∧ (gb (rndL l x c).2 i = true → gb (rndL l x d).2 i = true)
  | c, 0, h => by obtain rfl : c = 0 := by omega
                  exact ⟨id, id⟩
  | c, d + 1, h => by
    by_cases hc : c = d + 1
    · subst hc; exact ⟨id, id⟩
    · have ih := rnd_le (c := c) (d := d) (by omega)
      exact ⟨fun h => (row_mono _).1 (ih.1 h), fun h => (row_mono _).2 (ih.2 h)⟩
theorem all_le : ∀ {c d : Nat}, c ≤ d → (gb (allL l c).1 i = true → gb (allL l d).1 i = true) ∧ (gb (allL l c).2 i = true → gb (allL l d).2 i = true)
  | c, 0, h => by obtain rfl : c = 0 := by omega
                  exact ⟨id, id⟩
  | c, d + 1, h => by
    by_cases hc : c = d + 1
    · subst hc; exact ⟨id, id⟩
    · have ih := all_le (c := c) (d := d) (by omega)
      have h0 := rnd_le (l := l) (x := allL l d) (i := i) (c := 0) (d := l.Next.length) (Nat.zero_le _)
      exact ⟨fun h => h0.1 (ih.1 h), fun h => h0.2 (ih.2 h)⟩
/-- What the cell of k and c does in a round. -/
theorem rnd_cell {j : Nat} (hk : k < l.Next.length) (hc : c < (l.Next.getD k []).length) (hj : toL l k c = (j : Int)) :
    (gb (rndL l x k).1 k = true → gb (rndL l x (k + 1)).1 j = true) ∧ (gb x.2 j = true → gb (rndL l x (k + 1)).2 k = true) := by
  have e : rndL l x (k + 1) = rowLv l k (rndL l x k) (l.Next.getD k []).length := rfl
  have es : rowLv l k (rndL l x k) (c + 1) = cellL l k c (rowLv l k (rndL l x k) c) := rfl
  have hle := fun i => row_le (l := l) (k := k) (x := rndL l x k) (i := i) (c := c + 1) (d := (l.Next.getD k []).length) (by omega)
  have hm := fun i => row_mono (l := l) (k := k) (x := rndL l x k) (i := i) c
  refine ⟨fun h => ?_, fun h => ?_⟩
  · rw [e]
    refine (hle j).1 ?_
    rw [es, cellL, if_pos (by omega), hj]
    simp only [gb_put, Int.toNat_natCast, if_true]
    rw [(hm k).1 h, Bool.or_true]
  · rw [e]
    refine (hle k).2 ?_
    rw [es, cellL, if_pos (by omega), hj]
    simp only [gb_put, Int.toNat_natCast, if_true]
    have h1 := (rnd_le (l := l) (x := x) (i := j) (c := 0) (d := k) (Nat.zero_le _)).2 h
    rw [(hm j).2 h1, Bool.or_true]
end
section
variable {l : Lang}
/-- Each state is reached from one before it. -/
theorem reached_all (hok : check l = 0) (hr : ∀ j, 0 < j → j < l.Accept.length → ∃ i c, i < j ∧ c < 37 ∧ toL l i c = j) {x : Mp × Mp} (h0 : gb x.1 0 = true) : ∀ j, j < l.Accept.length → gb (rndL l x j).1 j = true := by
  obtain ⟨f1, f2, f3, f4⟩ := check_facts hok
  intro j
  induction j using Nat.strongRecOn with
  | ind j ih =>
    intro hj
    by_cases hj0 : j = 0
    · subst hj0; exact h0
    · obtain ⟨i, c, h1, h2, h3⟩ := hr j (by omega) hj
      have hi := ih i h1 (by omega)
      have hw := (f4 i (by omega)).1
      exact (rnd_le (by omega)).1 ((rnd_cell (by omega) (by omega) h3).1 hi)
theorem reached_true (hok : check l = 0) (hr : ∀ j, 0 < j → j < l.Accept.length → ∃ i c, i < j ∧ c < 37 ∧ toL l i c = j) {j : Nat} (hj : j < l.Accept.length) : gb (allL l l.Accept.length).1 j = true := by
  obtain ⟨f1, f2, f3, f4⟩ := check_facts hok
  have h := reached_all hok hr (x := allL l 0) rfl j hj
  have h1 : gb (allL l 1).1 j = true := (rnd_le (c := j) (d := l.Next.length) (by omega)).1 h
  exact (all_le (by omega)).1 h1
theorem count_lt {p q : Nat → Bool} : ∀ {L : List Nat}, (∀ x ∈ L, p x = true → q x = true) → (∃ x ∈ L, p x = false ∧ q x = true) → L.countP p < L.countP q
  | [], _, ⟨x, h, _⟩ => by simp at h
  | a :: L, h, ⟨x, hx, h1, h2⟩ => by
    have hle : L.countP p ≤ L.countP q := List.countP_mono_left fun y hy => h y (by simp [hy])
    rw [List.countP_cons, List.countP_cons]
    rcases List.mem_cons.1 hx with rfl | hx
    · rw [h1, h2]; simp; omega
    · have ih := count_lt (L := L) (fun y hy => h y (by simp [hy])) ⟨x, hx, h1, h2⟩
      have ha := h a (by simp)
      by_cases hp : p a = true
      · rw [hp, ha hp]; simp; omega
      · rw [if_neg hp]; split <;> omega
theorem leads_next (hok : check l = 0) {r : Nat} : ∀ (w : List UInt8) (q : Nat), q < l.Accept.length → accQ l q w = true → gb (allL l r).2 q = false → ∃ q', q' < l.Accept.length ∧ gb (allL l r).2 q' = false ∧ gb (allL l (r + 1)).2 q' = true
  | [], q, hq, ha, hg => by
    rw [accQ_nil] at ha
    have : gb (allL l 0).2 q = true := by
      show gb (mpL l l.Accept.length) q = true
      unfold gb mpL
      rw [if_pos hq]; exact ha
    rw [(all_le (Nat.zero_le r)).2 this] at hg
    cases hg
  | b :: w, q, hq, ha, hg => by
    obtain ⟨f1, f2, f3, f4⟩ := check_facts hok
    obtain ⟨h1, h2, h3⟩ := accQ_cons.1 ha
    have hs := sym_le (b.toNat : Int)
    have hrow := f4 q (by omega)
    have hto := hrow.2 (sym b.toNat).toNat (by rw [hrow.1]; omega)
    have et : toL l q (sym b.toNat).toNat = (((l.Next.getD q []).getD (sym b.toNat).toNat 0).toNat : Nat) := by unfold toL; omega
    cases hc : gb (allL l r).2 ((l.Next.getD q []).getD (sym b.toNat).toNat 0).toNat with
    | true =>
      refine ⟨q, hq, hg, ?_⟩
      have := (rnd_cell (l := l) (x := allL l r) (k := q) (c := (sym b.toNat).toNat) (by omega) (by rw [hrow.1]; omega) et).2 hc
      exact (rnd_le (c := q + 1) (d := l.Next.length) (by omega)).2 this
    | false => exact leads_next hok w _ (by omega) h3 hc
theorem leads_count (hok : check l = 0) (hw : ∀ q, q < l.Accept.length → ∃ w, accQ l q w = true) : ∀ r, r ≤ l.Accept.length → r ≤ (List.range l.Accept.length).countP (fun k => gb (allL l r).2 k)
  | 0, _ => Nat.zero_le _
  | r + 1, hr => by
    have ih := leads_count hok hw r (by omega)
    by_cases hall : ∀ q, q < l.Accept.length → gb (allL l r).2 q = true
    · have : (List.range l.Accept.length).countP (fun k => gb (allL l (r + 1)).2 k) = (List.range l.Accept.length).length := by
        rw [List.countP_eq_length]
        intro a ha
        exact (all_le (Nat.le_succ r)).2 (hall a (List.mem_range.1 ha))
      rw [this, List.length_range]; omega
    · obtain ⟨q, hq⟩ := Classical.not_forall.1 hall
      obtain ⟨hq1, hq2⟩ := Classical.not_imp.1 hq
      obtain ⟨w, hww⟩ := hw q hq1
      obtain ⟨q', a1, a2, a3⟩ := leads_next hok w q hq1 hww (by simpa using hq2)
      have := count_lt (p := fun k => gb (allL l r).2 k) (q := fun k => gb (allL l (r + 1)).2 k) (L := List.range l.Accept.length) (fun x _ h => (all_le (Nat.le_succ r)).2 h) ⟨q', List.mem_range.2 a1, a2, a3⟩
      omega
theorem leads_true (hok : check l = 0) (hw : ∀ q, q < l.Accept.length → ∃ w, accQ l q w = true) {q : Nat} (hq : q < l.Accept.length) : gb (allL l l.Accept.length).2 q = true := by
  have h := leads_count hok hw l.Accept.length (Nat.le_refl _)
  have hle := List.countP_le_length (p := fun k => gb (allL l l.Accept.length).2 k) (l := List.range l.Accept.length)
  rw [List.length_range] at hle
  have he : (List.range l.Accept.length).countP (fun k => gb (allL l l.Accept.length).2 k) = (List.range l.Accept.length).length := by rw [List.length_range]; omega
  exact List.countP_eq_length.1 he q (List.mem_range.2 hq)
end
/-- All states of a pattern's automaton are live. -/
theorem langS_live {s : List UInt8} {l : Lang} (h : langS s = (l, 0)) : (liveS l).length = l.Accept.length ∧ ∀ k, k < (liveS l).length → (liveS l).getD k false = true := by
  obtain ⟨m, L, h1, h2, h3, h4, hf⟩ := langS_found h
  have hok := hf.check h4
  obtain ⟨f1, f2, f3, f4⟩ := check_facts hok
  obtain ⟨g1, g2, g3⟩ := parseS_bound (s := s)
  have hp : (plOf (parseS s)).length ≤ 127 := by omega
  have hlen : l.Accept.length = L.length := hf.lenB
  obtain ⟨bs, hb⟩ : ∃ bs, branchesS s = some bs := by
    rw [parseS_B] at h3
    cases hb : branchesS s with
    | none => rw [hb] at h3; cases h3
    | some bs => exact ⟨bs, rfl⟩
  have epl : plOf (parseS s) = bs.flatten := by rw [parseS_B, hb]; rfl
  have est : stOf (parseS s) = offs 0 bs := by rw [parseS_B, hb]; rfl
  have hne := parseB_ne hb
  have hL : Leads (plOf (parseS s)) := by rw [epl]; exact leads_flat hne (parseB_sets hb (by simp))
  have hpos : 0 < (plOf (parseS s)).length := by
    obtain ⟨_, x, hx⟩ := hL
    rw [hx]; simp
  have good : ∀ (j : Nat) x, L[j]? = some x → Good (plOf (parseS s)) x := by
    intro j
    induction j using Nat.strongRecOn with
    | ind j ih =>
      intro x hx
      by_cases hj : j = 0
      · subst hj
        rw [hf.zero] at hx
        cases hx
        refine ⟨_, h1, 0, hpos, ?_⟩
        rw [startAt_iff]
        refine ⟨0, ?_, ?_⟩
        · rw [est, offs_len]; exact List.length_pos_iff.2 hne
        · rw [est]
          match bs, hne with
          | b :: bs, _ => rfl
      · have hjl := (List.getElem?_eq_some_iff.1 hx).1
        obtain ⟨i, c, a1, a2, a3, a4⟩ := hf.reach j (by omega) hjl
        have hxi : L[i]? = some L[i] := List.getElem?_eq_getElem a2
        rcases hf.nxt i _ c a2 hxi a3 with ⟨b1, _⟩ | ⟨i', b1, b2, b3⟩
        · omega
        · have : i' = j := by omega
          subst this
          rw [hx] at b2
          cases b2
          exact good_step hp hL a3 (ih i a1 _ hxi) b3
  have hw : ∀ q, q < l.Accept.length → ∃ w, accQ l q w = true := fun q hq => by
    have hxq : L[q]? = some (L[q]'(by omega)) := List.getElem?_eq_getElem (by omega)
    obtain ⟨S, c1, i, c2, c3⟩ := good q _ hxq
    obtain ⟨w, hw⟩ := leads_acc (hL.drop c2)
    refine ⟨w, ?_⟩
    rw [hf.acc_eq (lawfulF _) w q _ hxq, ← accW_bits hp w _ _ c1, accW_iff]
    exact ⟨i, c3, hw⟩
  have hr : ∀ j, 0 < j → j < l.Accept.length → ∃ i c, i < j ∧ c < 37 ∧ toL l i c = j := fun j a b => by
    obtain ⟨i, c, a1, a2, a3, a4⟩ := hf.reach j a (by omega)
    exact ⟨i, c, a1, a3, a4⟩
  have el : liveS l = liveL l := by unfold liveS; rw [if_neg (by simpa using hok)]
  rw [el]
  refine ⟨outL_len _ _ _, fun k hk => ?_⟩
  have hk' : k < l.Accept.length := by rw [liveL, outL_len] at hk; exact hk
  unfold liveL outL
  rw [List.getD_eq_getElem?_getD, List.getElem?_map, List.getElem?_range hk']
  simp only [Option.map_some, Option.getD_some, if_pos hk']
  rw [reached_true hok hr hk', leads_true hok hw hk']
  rfl
end Go.Proofs.Ytjnjmnfacaakfaa
namespace Go.Proofs.Ytjnjmnfacaakfaa
open Go.Eng
def meB (l : List Int) : List (List Piece) := brOf (branchesR (patS (l.take 24)))
theorem me_ok (l : List Int) : (branchesR (patS (l.take 24))).isSome = true := by rw [branchesR_some]; exact patS_branches _
theorem me_err (l : List Int) : (langS (patS (l.take 24))).2 = 0 ∨ (langS (patS (l.take 24))).2 = 2 := langS_ok (patS_branches _)
theorem me_has {l : List Int} (h : (langS (patS (l.take 24))).2 = 0) (w : List UInt8) : has (unA l) w = (meB l).any fun b => mat b w := langS_mat (Prod.ext rfl h) w
theorem me_live {l : List Int} (h : (langS (patS (l.take 24))).2 = 0) : (liveS (unA l)).length = (unA l).Accept.length ∧ ∀ k, k < (liveS (unA l)).length → (liveS (unA l)).getD k false = true := langS_live (s := patS (l.take 24)) (Prod.ext rfl h)
theorem me_check {l : List Int} (h : (langS (patS (l.take 24))).2 = 0) : check (unA l) = 0 := langS_check (s := patS (l.take 24)) (Prod.ext rfl h)
theorem any_succ {f : List Piece → Bool} {bs : List (List Piece)} {j : Nat} (h : j < bs.length) : ((bs.take j).any f || f (bs.getD j [])) = (bs.take (j + 1)).any f := by
  rw [List.take_succ_eq_append_getElem h, List.any_append, List.getD_eq_getElem?_getD, List.getElem?_eq_getElem h]
  simp
theorem brR_len {s : List UInt8} : ∀ {n p : Nat} {cur : List Piece} {out y : List (List Piece)}, p ≤ s.length → brR n s p cur out = some y → y.length ≤ out.length + (s.length - p) + 1
  | 0, _, _, _, _, _, h => by cases h
  | n + 1, p, cur, out, y, hp, h => by
    unfold brR at h
    split at h
    · rename_i hlt
      split at h
      · split at h
        · cases h
        · have := brR_len (by omega) h
          simp only [List.length_append, List.length_cons, List.length_nil] at this
          omega
      · split at h
        · cases h
        · rename_i hs
          have h1 := setR_le (s := s) (p := p) (by omega) (eq_true_of_ne_false hs)
          have h2 := nxR_le h1.2
          have := brR_len h2.2 h
          omega
    · split at h
      · cases h
      · cases h
        simp
theorem brOf_len (s : List UInt8) : (brOf (branchesR s)).length ≤ s.length + 1 := by
  cases h : branchesR s with
  | none => simp [brOf]
  | some y =>
    have := brR_len (Nat.zero_le _) h
    simpa [brOf] using this
theorem firstS_20 {l : Lang} : (firstS l 20).length ≤ 20 := by have := firstS_len (l := l) (m := 20) (by omega); omega
theorem means_ok (l : List Int) (n : List (List Int)) (hb0 : n.length < 4611686018427387904) (hb1 : ∀ k, k < n.length → (n.getD k []).length < 4611686018427387904) : Pure Try.prog 7 [(eL eI 1 0) l, (eL (eL eI 1 0) 1 []) n] (vbool true) := by
  have hp1 := patS_len (l.take 24)
  have hok := me_ok l
  have he := me_err l
  have hf1 := firstS_20 (l := unA l)
  have hbl := brOf_len (patS (l.take 24))
  have hal : (unA l).Accept.length ≤ 17 := langS_len _
  refine pure_of (fn := Try.f7) Try.func7 rfl rfl fun F_ W0_ => ?_
  refine tr_seq ?_
  refine tr_r (vc := []) (E' := [(0, none, .p ((eL eI 1 0) l)), (1, none, .p ((eL (eL eI 1 0) 1 []) n))]) (H' := []) [] [] [0, 1] (by kernel_rfl) ?_ ?_
  · exact trivial
  refine tr_then ?_
  refine tr_seq ?_
  refine tr_r (vc := [Pure Try.prog 8 [] (vbool true)]) (E' := [(0, none, .p ((eL eI 1 0) l)), (1, none, .p ((eL (eL eI 1 0) 1 []) n)), (5, none, vbool true)]) (H' := []) [] [(0, vbool true)] [0, 1, 5] (by kernel_rfl) ?_ ?_
  · refine al ?_ (trivial)
    · exact sanity_ok
  refine tr_then ?_
  refine tr_seq ?_
  refine tr_r (vc := [Pure Try.prog 10 [(eL eI 1 0) l] (.p ((eL eI 1 0) (l.take 24))), Pure Try.prog 9 [(eL eI 1 0) (l.take 24)] (vstr (patS (l.take 24)))]) (E' := [(1, none, .p ((eL (eL eI 1 0) 1 []) n)), (5, none, vbool true), (6, none, vstr (patS (l.take 24)))]) (H' := []) [] [(1, .p ((eL eI 1 0) (l.take 24))), (2, vstr (patS (l.take 24)))] [1, 5, 6] (by kernel_rfl) ?_ ?_
  · refine al ?_ (al ?_ (trivial))
    · exact cut_ok _
    · exact pattern_ok _ (by first | omega | (intro hg; simp at hg; omega) | (simp; done) | (simp_all; done) | (simp_all; omega) | grind)
  refine tr_then ?_
  refine tr_seq ?_
  refine tr_r (vc := [Pure Try.prog 11 [.s (patS (l.take 24))] (.tup [.p (eLang ((langS (patS (l.take 24))).1)), vint .i64 ((langS (patS (l.take 24))).2)]), (.p (eLang ((langS (patS (l.take 24))).1)) : D) = .p (eLang (unA l))]) (E' := [(1, none, .p ((eL (eL eI 1 0) 1 []) n)), (5, none, vbool true), (6, none, vstr (patS (l.take 24))), (7, none, .ref 0 []), (8, none, vint .i64 ((langS (patS (l.take 24))).2))]) (H' := [.box (.p (eLang (unA l)))]) [(3, .p (eLang (unA l)))] [(1, .tup [.p (eLang ((langS (patS (l.take 24))).1)), vint .i64 ((langS (patS (l.take 24))).2)])] [1, 5, 6, 7, 8] (by kernel_rfl) ?_ ?_
  · refine al ?_ (al ?_ (trivial))
    · exact Parse_ok _ (by first | omega | (intro hg; simp at hg; omega) | (simp; done) | (simp_all; done) | (simp_all; omega) | grind)
    · rfl
  refine tr_then ?_
  refine tr_seq ?_
  refine tr_r (vc := [Pure Try.prog 27 [.s (patS (l.take 24))] (.tup [.p ((eL (eL ePiece 38 dPiece) 1 []) (brOf (branchesR (patS (l.take 24))))), vbool ((branchesR (patS (l.take 24))).isSome)]), ((branchesR (patS (l.take 24))).isSome) = true]) (E' := [(1, none, .p ((eL (eL eI 1 0) 1 []) n)), (5, none, vbool true), (7, none, .ref 0 []), (8, none, vint .i64 ((langS (patS (l.take 24))).2)), (9, none, .p ((eL (eL ePiece 38 dPiece) 1 []) (brOf (branchesR (patS (l.take 24)))))), (10, none, vbool true)]) (H' := [.box (.p (eLang (unA l)))]) [(4, vbool true)] [(1, .tup [.p ((eL (eL ePiece 38 dPiece) 1 []) (brOf (branchesR (patS (l.take 24))))), vbool ((branchesR (patS (l.take 24))).isSome)])] [1, 5, 7, 8, 9, 10] (by kernel_rfl) ?_ ?_
  · refine al ?_ (al ?_ (trivial))
    · exact refBranches_ok _ (by omega)
    · first | omega | (intro hg; simp at hg; omega) | (simp; done) | (simp_all; done) | (simp_all; omega) | grind
  refine tr_then ?_
  refine tr_seq ?_
  refine tr_seq ?_
  refine tr_r (vc := []) (E' := [(1, none, .p ((eL (eL eI 1 0) 1 []) n)), (5, none, vbool true), (7, none, .ref 0 []), (8, none, vint .i64 ((langS (patS (l.take 24))).2)), (9, none, .p ((eL (eL ePiece 38 dPiece) 1 []) (brOf (branchesR (patS (l.take 24)))))), (10, none, vbool true), (36, none, vbool (((langS (patS (l.take 24))).2) != 0))]) (H' := [.box (.p (eLang (unA l)))]) [] [] [1, 5, 7, 8, 9, 10, 36] (by kernel_rfl) ?_ ?_
  · exact trivial
  refine tr_then ?_
  refine tr_condP (((langS (patS (l.take 24))).2) != 0) (((langS (patS (l.take 24))).2) ≠ 0) (by simp) (by kernel_rfl) (fun hc1 => ?_) (fun hc1 => ?_)
  · skip
    refine tr_seq ?_
    refine tr_r (vc := [true = true → true = true, (true || false) = true → (true || false) = true, (true || false) = true → (true || false) = true]) (E' := [(4, none, vbool ((true || false) && (((langS (patS (l.take 24))).2) == 2)))]) (H' := [.box (.p (eLang (unA l)))]) [] [] [4] (by kernel_rfl) ?_ ?_
    · refine al ?_ (al ?_ (al ?_ (trivial)))
      · exact id
      · exact id
      · exact id
    refine tr_then ?_
    refine tr_pre (E' := [(4, none, vbool ((true || false) && (((langS (patS (l.take 24))).2) == 2)))]) (H' := []) (fun A_ W_ hS => sl_weak (vc := []) [] [4] (by kernel_rfl) trivial hS) ?_
    refine tr_pre (E' := (4, none, vbool true) :: [(4, none, vbool ((true || false) && (((langS (patS (l.take 24))).2) == 2)))]) (H' := []) (fun A_ W_ hS => sl_set_imp (d := vbool ((true || false) && (((langS (patS (l.take 24))).2) == 2))) 4 (vbool true) (by kernel_rfl) ?_ hS) ?_
    · refine imp_eq (congrArg (fun x => D.p (eB x)) (a₁ := ((true || false) && (((langS (patS (l.take 24))).2) == 2))) (a₂ := true) ?_)
      first | rfl | (simp; done) | omega | (simp_all; done) | grind
    refine tr_pre (E' := [(4, none, vbool true)]) (H' := []) (fun A_ W_ hS => sl_proj (ts := [4]) (by kernel_rfl) hS) ?_
    exact tr_return' (vc := []) (ds := [vbool true]) (by kernel_rfl) trivial (by kernel_rfl) (fun _ _ h => h)
  · skip
    refine tr_skip ?_
    refine tr_then ?_
    refine tr_seq ?_
    refine tr_r (vc := [Pure Try.prog 14 [eLang (unA l), .v (.int .i64 20)] (.p ((eL eS 1 []) (firstS (unA l) 20))), (1 + ((firstS (unA l) 20).length)) * 16 ≤ 140737488355328]) (E' := [(1, none, .p ((eL (eL eI 1 0) 1 []) n)), (5, none, vbool true), (7, none, .ref 0 []), (9, none, .p ((eL (eL ePiece 38 dPiece) 1 []) (brOf (branchesR (patS (l.take 24)))))), (10, none, vbool true), (11, none, .own 2)]) (H' := [.box (.p (eLang (unA l))), .dead, .arr 9 1 (1 + (firstS (unA l) 20).length) (appF (fun j => ([vstr ([] : List UInt8)] : List D).getD j default) 1 (fun j => .p (eS ((firstS (unA l) 20).getD j []))))]) [] [(2, .p ((eL eS 1 []) (firstS (unA l) 20)))] [1, 5, 7, 9, 10, 11] (by kernel_rfl) ?_ ?_
    · refine al ?_ (al ?_ (trivial))
      · exact First_ok _ _
      · first | omega | (intro hg; simp at hg; omega) | (simp; done) | (simp_all; done) | (simp_all; omega) | grind
    refine nm_pre (E' := [(1, none, .p ((eL (eL eI 1 0) 1 []) n)), (5, none, vbool true), (7, none, .ref 0 []), (9, none, .p ((eL (eL ePiece 38 dPiece) 1 []) (brOf (branchesR (patS (l.take 24)))))), (10, none, vbool true), (11, none, .own 2)]) (H' := [.box (.p (eLang (unA l))), .dead, oL 9 eS 1 [] (([([] : List UInt8)]) ++ (firstS (unA l) 20))]) (fun A_ W_ hS => sl_arr (n := (1 + (firstS (unA l) 20).length)) (n' := (([([] : List UInt8)]) ++ (firstS (unA l) 20)).length) (f := appF (fun j => ([vstr ([] : List UInt8)] : List D).getD j default) 1 (fun j => .p (eS ((firstS (unA l) 20).getD j [])))) 2 (fun i => .p (eS ((([([] : List UInt8)]) ++ (firstS (unA l) 20)).getD i []))) (by kernel_rfl) (by first | rfl | (simp; done) | (simp; omega)) (by exact app_of (by first | rfl | (simp; done) | (simp; omega)) (lit_getD (e := eS) (d := []) (l := [([] : List UInt8)]))) hS) ?_
    refine tr_then ?_
    refine tr_seq ?_
    refine tr_seq ?_
    refine tr_r (vc := []) (E' := [(1, none, .p ((eL (eL eI 1 0) 1 []) n)), (5, none, vbool true), (7, none, .ref 0 []), (9, none, .p ((eL (eL ePiece 38 dPiece) 1 []) (brOf (branchesR (patS (l.take 24)))))), (10, none, vbool true), (11, none, .own 2), (12, none, vint .i64 0)]) (H' := [.box (.p (eLang (unA l))), .dead, oL 9 eS 1 [] (([([] : List UInt8)]) ++ (firstS (unA l) 20))]) [] [] [1, 5, 7, 9, 10, 11, 12] (by kernel_rfl) ?_ ?_
    · exact trivial
    refine tr_then ?_
    refine tr_block ?_
    refine tr_loop (α := Nat × (List (List UInt8))) (fun z : Nat × (List (List UInt8)) => (fun (k : Nat) (W : List (List UInt8)) => [(1, none, .p ((eL (eL eI 1 0) 1 []) n)), (5, none, vbool true), (7, none, .ref 0 []), (9, none, .p ((eL (eL ePiece 38 dPiece) 1 []) (brOf (branchesR (patS (l.take 24)))))), (10, none, vbool true), (11, none, .own 2), (12, none, vint .i64 ((k : Nat) : Int))]) z.1 z.2) (fun z : Nat × (List (List UInt8)) => (fun (k : Nat) (W : List (List UInt8)) => [.box (.p (eLang (unA l))), .dead, oL 9 eS 1 [] W]) z.1 z.2) (fun z : Nat × (List (List UInt8)) => (fun (k : Nat) (W : List (List UInt8)) => (k ≤ n.length) ∧ (k ≤ 6) ∧ (W.length ≤ 21 + k) ∧ (∀ x ∈ W, x.length ≤ 12)) z.1 z.2) (fun z : Nat × (List (List UInt8)) => (fun (k : Nat) (W : List (List UInt8)) => n.length - k) z.1 z.2) (0, (([([] : List UInt8)]) ++ (firstS (unA l) 20))) ?_ ?_ ?_
    · show (0 ≤ n.length) ∧ (0 ≤ 6) ∧ ((([([] : List UInt8)]) ++ (firstS (unA l) 20)).length ≤ 21 + 0) ∧ (∀ x ∈ (([([] : List UInt8)]) ++ (firstS (unA l) 20)), x.length ≤ 12)
      refine ⟨?_, ?_, ?_, ?_⟩
      · first | omega | (intro hg; simp at hg; omega) | (simp; done) | (simp_all; done) | (simp_all; omega) | grind
      · first | omega | (intro hg; simp at hg; omega) | (simp; done) | (simp_all; done) | (simp_all; omega) | grind
      · first | omega | (intro hg; simp at hg; omega) | (simp; done) | (simp_all; done) | (simp_all; omega) | grind
      · exact short_app short_nil firstS_short
    · intro A_ W_ hS
      replace hS := sl_set (d := vint .i64 0) 12 (vint .i64 ((0 : Nat) : Int)) (by kernel_rfl) (eqD_int (by first | omega | (intro hg; simp at hg; omega) | (simp; done) | (simp_all; done) | (simp_all; omega) | grind)) hS
      exact sl_weak (vc := [∀ i, i < (([([] : List UInt8)]) ++ (firstS (unA l) 20)).length → D.p (eS ((([([] : List UInt8)]) ++ (firstS (unA l) 20)).getD i [])) = .p (eS ((([([] : List UInt8)]) ++ (firstS (unA l) 20)).getD i []))]) [0, 1, 2] [1, 5, 7, 9, 10, 11, 12] (by kernel_rfl) (al (fun _ _ => rfl) trivial) hS
    · intro z hz
      obtain ⟨k, W⟩ := z
      have hz : (k ≤ n.length) ∧ (k ≤ 6) ∧ (W.length ≤ 21 + k) ∧ (∀ x ∈ W, x.length ≤ 12) := hz
      obtain ⟨hi0_0, hi0_1, hi0_2, hi0_3⟩ := hz
      refine tr_seq ?_
      refine tr_seq ?_
      refine tr_r (vc := [(decide (((k : Nat) : Int) < ((n.length : Nat) : Int))) = true → (decide (((k : Nat) : Int) < ((n.length : Nat) : Int))) = true, (decide (((k : Nat) : Int) < ((n.length : Nat) : Int))) = true → (decide (((k : Nat) : Int) < ((n.length : Nat) : Int))) = true]) (E' := [(1, none, .p ((eL (eL eI 1 0) 1 []) n)), (5, none, vbool true), (7, none, .ref 0 []), (9, none, .p ((eL (eL ePiece 38 dPiece) 1 []) (brOf (branchesR (patS (l.take 24)))))), (10, none, vbool true), (11, none, .own 2), (12, none, vint .i64 ((k : Nat) : Int)), (56, none, vbool ((decide (((k : Nat) : Int) < ((n.length : Nat) : Int))) && (decide (((k : Nat) : Int) < 6))))]) (H' := [.box (.p (eLang (unA l))), .dead, oL 9 eS 1 [] W]) [] [] [1, 5, 7, 9, 10, 11, 12, 56] (by kernel_rfl) ?_ ?_
      · refine al ?_ (al ?_ (trivial))
        · exact id
        · exact id
      refine tr_then ?_
      refine tr_condP ((decide (((k : Nat) : Int) < ((n.length : Nat) : Int))) && (decide (((k : Nat) : Int) < 6))) ((((k : Nat) : Int) < ((n.length : Nat) : Int)) ∧ (((k : Nat) : Int) < 6)) (by simp) (by kernel_rfl) (fun hc2 => ?_) (fun hc2 => ?_)
      · skip
        refine tr_skip ?_
        refine tr_then ?_
        refine tr_seq ?_
        refine tr_block ?_
        refine tr_r (vc := [(0 : Int) ≤ ((k : Nat) : Int), ((k : Nat) : Int) < (n.length : Int), Pure Try.prog 15 [(eL eI 1 0) (n.getD k [])] (vstr (word (n.getD k []))), ∀ j, j < 1 → ([.s (word (n.getD k []))] : List PV).getD j default = (fun i => eS (([(word (n.getD k []))]).getD i [])) j, (W.length + (([(word (n.getD k []))]).length)) * 16 ≤ 140737488355328]) (E' := [(1, none, .p ((eL (eL eI 1 0) 1 []) n)), (5, none, vbool true), (7, none, .ref 0 []), (9, none, .p ((eL (eL ePiece 38 dPiece) 1 []) (brOf (branchesR (patS (l.take 24)))))), (10, none, vbool true), (11, none, .own 3), (12, none, vint .i64 ((k : Nat) : Int))]) (H' := [.box (.p (eLang (unA l))), .dead, .dead, .arr 9 1 (W.length + ([(word (n.getD k []))]).length) (appF (fun i => .p (eS (W.getD i []))) W.length (fun j => .p (eS (([(word (n.getD k []))]).getD j []))))]) [] [(5, vstr (word (n.getD k []))), (6, .p ((eL eS 1 []) ([(word (n.getD k []))])))] [1, 5, 7, 9, 10, 11, 12] (by kernel_rfl) ?_ ?_
        · refine al ?_ (al ?_ (al ?_ (al ?_ (al ?_ (trivial)))))
          · first | omega | (intro hg; simp at hg; omega) | (simp; done) | (simp_all; done) | (simp_all; omega) | grind
          · first | omega | (intro hg; simp at hg; omega) | (simp; done) | (simp_all; done) | (simp_all; omega) | grind
          · exact word_ok _ (by first | omega | (intro hg; simp at hg; omega) | (simp; done) | (simp_all; done) | (simp_all; omega) | grind)
          · exact lit_pv (e := eS) (d := []) (l := [(word (n.getD k []))])
          · first | omega | (intro hg; simp at hg; omega) | (simp; done) | (simp_all; done) | (simp_all; omega) | grind
        refine nm_pre (E' := [(1, none, .p ((eL (eL eI 1 0) 1 []) n)), (5, none, vbool true), (7, none, .ref 0 []), (9, none, .p ((eL (eL ePiece 38 dPiece) 1 []) (brOf (branchesR (patS (l.take 24)))))), (10, none, vbool true), (11, none, .own 3), (12, none, vint .i64 ((k : Nat) : Int))]) (H' := [.box (.p (eLang (unA l))), .dead, .dead, oL 9 eS 1 [] (W ++ ([(word (n.getD k []))]))]) (fun A_ W_ hS => sl_arr (n := (W.length + ([(word (n.getD k []))]).length)) (n' := (W ++ ([(word (n.getD k []))])).length) (f := appF (fun i => .p (eS (W.getD i []))) W.length (fun j => .p (eS (([(word (n.getD k []))]).getD j [])))) 3 (fun i => .p (eS ((W ++ ([(word (n.getD k []))])).getD i []))) (by kernel_rfl) (by simp) (by first | exact appN | exact nilN | exact app0 | exact nilV _) hS) ?_
        refine in_n ?_
        refine tr_then ?_
        refine tr_r (vc := [(IntKind.wrap .i64 (((k : Nat) : Int) + 1)) = (((k + 1) : Nat) : Int)]) (E' := [(1, none, .p ((eL (eL eI 1 0) 1 []) n)), (5, none, vbool true), (7, none, .ref 0 []), (9, none, .p ((eL (eL ePiece 38 dPiece) 1 []) (brOf (branchesR (patS (l.take 24)))))), (10, none, vbool true), (11, none, .own 3), (12, none, vint .i64 (((k + 1) : Nat) : Int))]) (H' := [.box (.p (eLang (unA l))), .dead, .dead, oL 9 eS 1 [] (W ++ ([(word (n.getD k []))]))]) [(1, vint .i64 (((k + 1) : Nat) : Int))] [] [1, 5, 7, 9, 10, 11, 12] (by kernel_rfl) ?_ ?_
        · refine al ?_ (trivial)
          · exact wr64 (by omega) (by omega) (by omega)
        refine lp_end ((k + 1), (W ++ ([(word (n.getD k []))]))) ?_ ?_ ?_
        · show ((k + 1) ≤ n.length) ∧ ((k + 1) ≤ 6) ∧ ((W ++ ([(word (n.getD k []))])).length ≤ 21 + (k + 1)) ∧ (∀ x ∈ (W ++ ([(word (n.getD k []))])), x.length ≤ 12)
          refine ⟨?_, ?_, ?_, ?_⟩
          · first | omega | (intro hg; simp at hg; omega) | (simp; done) | (simp_all; done) | (simp_all; omega) | grind
          · first | omega | (intro hg; simp at hg; omega) | (simp; done) | (simp_all; done) | (simp_all; omega) | grind
          · first | omega | (intro hg; simp at hg; omega) | (simp; done) | (simp_all; done) | (simp_all; omega) | grind
          · exact short_app hi0_3 (short_word _)
        · show n.length - (k + 1) < n.length - k
          omega
        · intro A_ W_ hS
          exact sl_weak (vc := [∀ i, i < (W ++ ([(word (n.getD k []))])).length → D.p (eS ((W ++ ([(word (n.getD k []))])).getD i [])) = .p (eS ((W ++ ([(word (n.getD k []))])).getD i []))]) [0, 1, 3] [1, 5, 7, 9, 10, 11, 12] (by kernel_rfl) (al (fun _ _ => rfl) trivial) hS
      · skip
        refine tr_exit ?_
        refine th_e ?_
        refine th_e ?_
        refine in_hit ?_
        refine tr_then ?_
        refine tr_seq ?_
        refine tr_seq ?_
        refine tr_r (vc := []) (E' := [(5, none, vbool true), (7, none, .ref 0 []), (9, none, .p ((eL (eL ePiece 38 dPiece) 1 []) (brOf (branchesR (patS (l.take 24)))))), (10, none, vbool true), (67, none, .own 2), (68, none, vint .i64 ((W.length : Nat) : Int)), (69, none, vint .i64 0)]) (H' := [.box (.p (eLang (unA l))), .dead, oL 9 eS 1 [] W]) [] [] [5, 7, 9, 10, 67, 68, 69] (by kernel_rfl) ?_ ?_
        · exact trivial
        refine tr_then ?_
        refine tr_block ?_
        refine tr_loop (α := Nat) (fun z : Nat => (fun (q : Nat) => [(5, none, vbool true), (7, none, .ref 0 []), (9, none, .p ((eL (eL ePiece 38 dPiece) 1 []) (brOf (branchesR (patS (l.take 24)))))), (10, none, vbool true), (67, none, .own 2), (68, none, vint .i64 ((W.length : Nat) : Int)), (69, none, vint .i64 ((q : Nat) : Int))]) z) (fun z : Nat => (fun (q : Nat) => [.box (.p (eLang (unA l))), .dead, oL 9 eS 1 [] W]) z) (fun z : Nat => (fun (q : Nat) => (q ≤ W.length)) z) (fun z : Nat => (fun (q : Nat) => W.length - q) z) 0 ?_ ?_ ?_
        · show (0 ≤ W.length)
          · first | omega | (intro hg; simp at hg; omega) | (simp; done) | (simp_all; done) | (simp_all; omega) | grind
        · intro A_ W_ hS
          replace hS := sl_set (d := vint .i64 0) 69 (vint .i64 ((0 : Nat) : Int)) (by kernel_rfl) (eqD_int (by first | omega | (intro hg; simp at hg; omega) | (simp; done) | (simp_all; done) | (simp_all; omega) | grind)) hS
          exact sl_weak (vc := [∀ i, i < W.length → D.p (eS (W.getD i [])) = .p (eS (W.getD i []))]) [0, 1, 2] [5, 7, 9, 10, 67, 68, 69] (by kernel_rfl) (al (fun _ _ => rfl) trivial) hS
        · intro z hz
          revert z; intro q hz
          have hz : (q ≤ W.length) := hz
          have hi1_0 := hz
          have hsh := short_get (W := W) (q := q) hi0_3
          refine tr_seq ?_
          refine tr_r (vc := []) (E' := [(5, none, vbool true), (7, none, .ref 0 []), (9, none, .p ((eL (eL ePiece 38 dPiece) 1 []) (brOf (branchesR (patS (l.take 24)))))), (10, none, vbool true), (67, none, .own 2), (68, none, vint .i64 ((W.length : Nat) : Int)), (69, none, vint .i64 ((q : Nat) : Int)), (70, none, vbool (decide (((q : Nat) : Int) < ((W.length : Nat) : Int))))]) (H' := [.box (.p (eLang (unA l))), .dead, oL 9 eS 1 [] W]) [] [] [5, 7, 9, 10, 67, 68, 69, 70] (by kernel_rfl) ?_ ?_
          · exact trivial
          refine tr_then ?_
          refine tr_seq ?_
          refine tr_condP (decide (((q : Nat) : Int) < ((W.length : Nat) : Int))) (((q : Nat) : Int) < ((W.length : Nat) : Int)) (by simp) (by kernel_rfl) (fun hc3 => ?_) (fun hc3 => ?_)
          · skip
            refine tr_skip ?_
            refine tr_then ?_
            refine tr_seq ?_
            refine tr_block ?_
            refine tr_seq ?_
            refine tr_r (vc := [(0 : Int) ≤ ((q : Nat) : Int), ((q : Nat) : Int) < (W.length : Int), q < W.length]) (E' := [(5, none, vbool true), (7, none, .ref 0 []), (9, none, .p ((eL (eL ePiece 38 dPiece) 1 []) (brOf (branchesR (patS (l.take 24)))))), (10, none, vbool true), (14, none, vstr (W.getD q [])), (67, none, .own 2), (68, none, vint .i64 ((W.length : Nat) : Int)), (69, none, vint .i64 ((q : Nat) : Int))]) (H' := [.box (.p (eLang (unA l))), .dead, oL 9 eS 1 [] W]) [] [] [5, 7, 9, 10, 14, 67, 68, 69] (by kernel_rfl) ?_ ?_
            · refine al ?_ (al ?_ (al ?_ (trivial)))
              · first | omega | (intro hg; simp at hg; omega) | (simp; done) | (simp_all; done) | (simp_all; omega) | grind
              · first | omega | (intro hg; simp at hg; omega) | (simp; done) | (simp_all; done) | (simp_all; omega) | grind
              · first | omega | (intro hg; simp at hg; omega) | (simp; done) | (simp_all; done) | (simp_all; omega) | grind
            refine tr_then ?_
            refine tr_seq ?_
            refine tr_r (vc := []) (E' := [(5, none, vbool true), (7, none, .ref 0 []), (9, none, .p ((eL (eL ePiece 38 dPiece) 1 []) (brOf (branchesR (patS (l.take 24)))))), (10, none, vbool true), (14, none, vstr (W.getD q [])), (15, none, vbool false), (67, none, .own 2), (68, none, vint .i64 ((W.length : Nat) : Int)), (69, none, vint .i64 ((q : Nat) : Int))]) (H' := [.box (.p (eLang (unA l))), .dead, oL 9 eS 1 [] W]) [] [] [5, 7, 9, 10, 14, 15, 67, 68, 69] (by kernel_rfl) ?_ ?_
            · exact trivial
            refine tr_then ?_
            refine tr_seq ?_
            refine tr_seq ?_
            refine tr_r (vc := []) (E' := [(5, none, vbool true), (7, none, .ref 0 []), (9, none, .p ((eL (eL ePiece 38 dPiece) 1 []) (brOf (branchesR (patS (l.take 24)))))), (10, none, vbool true), (14, none, vstr (W.getD q [])), (15, none, vbool false), (67, none, .own 2), (68, none, vint .i64 ((W.length : Nat) : Int)), (69, none, vint .i64 ((q : Nat) : Int)), (73, none, .p ((eL (eL ePiece 38 dPiece) 1 []) (brOf (branchesR (patS (l.take 24)))))), (74, none, vint .i64 (((brOf (branchesR (patS (l.take 24)))).length : Nat) : Int)), (75, none, vint .i64 0)]) (H' := [.box (.p (eLang (unA l))), .dead, oL 9 eS 1 [] W]) [] [] [5, 7, 9, 10, 14, 15, 67, 68, 69, 73, 74, 75] (by kernel_rfl) ?_ ?_
            · exact trivial
            refine tr_then ?_
            refine tr_block ?_
            refine tr_loop (α := Nat) (fun z : Nat => (fun (j : Nat) => [(5, none, vbool true), (7, none, .ref 0 []), (9, none, .p ((eL (eL ePiece 38 dPiece) 1 []) (brOf (branchesR (patS (l.take 24)))))), (10, none, vbool true), (14, none, vstr (W.getD q [])), (15, none, vbool (((brOf (branchesR (patS (l.take 24)))).take j).any fun b => mat b (W.getD q []))), (67, none, .own 2), (68, none, vint .i64 ((W.length : Nat) : Int)), (69, none, vint .i64 ((q : Nat) : Int)), (73, none, .p ((eL (eL ePiece 38 dPiece) 1 []) (brOf (branchesR (patS (l.take 24)))))), (74, none, vint .i64 (((brOf (branchesR (patS (l.take 24)))).length : Nat) : Int)), (75, none, vint .i64 ((j : Nat) : Int))]) z) (fun z : Nat => (fun (j : Nat) => [.box (.p (eLang (unA l))), .dead, oL 9 eS 1 [] W]) z) (fun z : Nat => (fun (j : Nat) => (j ≤ (brOf (branchesR (patS (l.take 24)))).length)) z) (fun z : Nat => (fun (j : Nat) => (brOf (branchesR (patS (l.take 24)))).length - j) z) 0 ?_ ?_ ?_
            · show (0 ≤ (brOf (branchesR (patS (l.take 24)))).length)
              · first | omega | (intro hg; simp at hg; omega) | (simp; done) | (simp_all; done) | (simp_all; omega) | grind
            · intro A_ W_ hS
              replace hS := sl_set (d := vbool false) 15 (vbool (((brOf (branchesR (patS (l.take 24)))).take 0).any fun b => mat b (W.getD q []))) (by kernel_rfl) (eqD_bool (by first | omega | (intro hg; simp at hg; omega) | (simp; done) | (simp_all; done) | (simp_all; omega) | grind)) hS
              replace hS := sl_set (d := vint .i64 0) 75 (vint .i64 ((0 : Nat) : Int)) (by kernel_rfl) (eqD_int (by first | omega | (intro hg; simp at hg; omega) | (simp; done) | (simp_all; done) | (simp_all; omega) | grind)) hS
              exact sl_weak (vc := [∀ i, i < W.length → D.p (eS (W.getD i [])) = .p (eS (W.getD i []))]) [0, 1, 2] [5, 7, 9, 10, 14, 15, 67, 68, 69, 73, 74, 75] (by kernel_rfl) (al (fun _ _ => rfl) trivial) hS
            · intro z hz
              revert z; intro j hz
              have hz : (j ≤ (brOf (branchesR (patS (l.take 24)))).length) := hz
              have hi2_0 := hz
              refine tr_seq ?_
              refine tr_r (vc := []) (E' := [(5, none, vbool true), (7, none, .ref 0 []), (9, none, .p ((eL (eL ePiece 38 dPiece) 1 []) (brOf (branchesR (patS (l.take 24)))))), (10, none, vbool true), (14, none, vstr (W.getD q [])), (15, none, vbool (((brOf (branchesR (patS (l.take 24)))).take j).any fun b => mat b (W.getD q []))), (67, none, .own 2), (68, none, vint .i64 ((W.length : Nat) : Int)), (69, none, vint .i64 ((q : Nat) : Int)), (73, none, .p ((eL (eL ePiece 38 dPiece) 1 []) (brOf (branchesR (patS (l.take 24)))))), (74, none, vint .i64 (((brOf (branchesR (patS (l.take 24)))).length : Nat) : Int)), (75, none, vint .i64 ((j : Nat) : Int)), (76, none, vbool (decide (((j : Nat) : Int) < (((brOf (branchesR (patS (l.take 24)))).length : Nat) : Int))))]) (H' := [.box (.p (eLang (unA l))), .dead, oL 9 eS 1 [] W]) [] [] [5, 7, 9, 10, 14, 15, 67, 68, 69, 73, 74, 75, 76] (by kernel_rfl) ?_ ?_
              · exact trivial
              refine tr_then ?_
              refine tr_seq ?_
              refine tr_condP (decide (((j : Nat) : Int) < (((brOf (branchesR (patS (l.take 24)))).length : Nat) : Int))) (((j : Nat) : Int) < (((brOf (branchesR (patS (l.take 24)))).length : Nat) : Int)) (by simp) (by kernel_rfl) (fun hc4 => ?_) (fun hc4 => ?_)
              · skip
                refine tr_skip ?_
                refine tr_then ?_
                refine tr_seq ?_
                refine tr_block ?_
                refine tr_seq ?_
                refine tr_r (vc := [(0 : Int) ≤ ((j : Nat) : Int), ((j : Nat) : Int) < ((brOf (branchesR (patS (l.take 24)))).length : Int)]) (E' := [(5, none, vbool true), (7, none, .ref 0 []), (9, none, .p ((eL (eL ePiece 38 dPiece) 1 []) (brOf (branchesR (patS (l.take 24)))))), (10, none, vbool true), (14, none, vstr (W.getD q [])), (15, none, vbool (((brOf (branchesR (patS (l.take 24)))).take j).any fun b => mat b (W.getD q []))), (17, none, .p ((eL ePiece 38 dPiece) ((brOf (branchesR (patS (l.take 24)))).getD j []))), (67, none, .own 2), (68, none, vint .i64 ((W.length : Nat) : Int)), (69, none, vint .i64 ((q : Nat) : Int)), (73, none, .p ((eL (eL ePiece 38 dPiece) 1 []) (brOf (branchesR (patS (l.take 24)))))), (74, none, vint .i64 (((brOf (branchesR (patS (l.take 24)))).length : Nat) : Int)), (75, none, vint .i64 ((j : Nat) : Int))]) (H' := [.box (.p (eLang (unA l))), .dead, oL 9 eS 1 [] W]) [] [] [5, 7, 9, 10, 14, 15, 17, 67, 68, 69, 73, 74, 75] (by kernel_rfl) ?_ ?_
                · refine al ?_ (al ?_ (trivial))
                  · first | omega | (intro hg; simp at hg; omega) | (simp; done) | (simp_all; done) | (simp_all; omega) | grind
                  · first | omega | (intro hg; simp at hg; omega) | (simp; done) | (simp_all; done) | (simp_all; omega) | grind
                refine tr_then ?_
                refine tr_r (vc := [(!(((brOf (branchesR (patS (l.take 24)))).take j).any fun b => mat b (W.getD q []))) = true → (!(((brOf (branchesR (patS (l.take 24)))).take j).any fun b => mat b (W.getD q []))) = true, (!(((brOf (branchesR (patS (l.take 24)))).take j).any fun b => mat b (W.getD q []))) = true → (!(((brOf (branchesR (patS (l.take 24)))).take j).any fun b => mat b (W.getD q []))) = true, (!(((brOf (branchesR (patS (l.take 24)))).take j).any fun b => mat b (W.getD q []))) = true → (Pure Try.prog 28 [(eL ePiece 38 dPiece) ((brOf (branchesR (patS (l.take 24)))).getD j []), .s (W.getD q [])] (vbool (mat ((brOf (branchesR (patS (l.take 24)))).getD j []) (W.getD q [])))), (!(((brOf (branchesR (patS (l.take 24)))).take j).any fun b => mat b (W.getD q []))) = true → (!(((brOf (branchesR (patS (l.take 24)))).take j).any fun b => mat b (W.getD q []))) = true]) (E' := [(5, none, vbool true), (7, none, .ref 0 []), (9, none, .p ((eL (eL ePiece 38 dPiece) 1 []) (brOf (branchesR (patS (l.take 24)))))), (10, none, vbool true), (14, none, vstr (W.getD q [])), (15, none, vbool ((((brOf (branchesR (patS (l.take 24)))).take j).any fun b => mat b (W.getD q [])) || (mat ((brOf (branchesR (patS (l.take 24)))).getD j []) (W.getD q [])))), (67, none, .own 2), (68, none, vint .i64 ((W.length : Nat) : Int)), (69, none, vint .i64 ((q : Nat) : Int)), (73, none, .p ((eL (eL ePiece 38 dPiece) 1 []) (brOf (branchesR (patS (l.take 24)))))), (74, none, vint .i64 (((brOf (branchesR (patS (l.take 24)))).length : Nat) : Int)), (75, none, vint .i64 ((j : Nat) : Int))]) (H' := [.box (.p (eLang (unA l))), .dead, oL 9 eS 1 [] W]) [] [(4, vbool (mat ((brOf (branchesR (patS (l.take 24)))).getD j []) (W.getD q [])))] [5, 7, 9, 10, 14, 15, 67, 68, 69, 73, 74, 75] (by kernel_rfl) ?_ ?_
                · refine al ?_ (al ?_ (al ?_ (al ?_ (trivial))))
                  · exact id
                  · exact id
                  · intro _; exact matches_ok _ _
                  · exact id
                refine in_n ?_
                refine tr_then ?_
                refine tr_r (vc := [(IntKind.wrap .i64 (((j : Nat) : Int) + 1)) = (((j + 1) : Nat) : Int)]) (E' := [(5, none, vbool true), (7, none, .ref 0 []), (9, none, .p ((eL (eL ePiece 38 dPiece) 1 []) (brOf (branchesR (patS (l.take 24)))))), (10, none, vbool true), (14, none, vstr (W.getD q [])), (15, none, vbool ((((brOf (branchesR (patS (l.take 24)))).take j).any fun b => mat b (W.getD q [])) || (mat ((brOf (branchesR (patS (l.take 24)))).getD j []) (W.getD q [])))), (67, none, .own 2), (68, none, vint .i64 ((W.length : Nat) : Int)), (69, none, vint .i64 ((q : Nat) : Int)), (73, none, .p ((eL (eL ePiece 38 dPiece) 1 []) (brOf (branchesR (patS (l.take 24)))))), (74, none, vint .i64 (((brOf (branchesR (patS (l.take 24)))).length : Nat) : Int)), (75, none, vint .i64 (((j + 1) : Nat) : Int))]) (H' := [.box (.p (eLang (unA l))), .dead, oL 9 eS 1 [] W]) [(0, vint .i64 (((j + 1) : Nat) : Int))] [] [5, 7, 9, 10, 14, 15, 67, 68, 69, 73, 74, 75] (by kernel_rfl) ?_ ?_
                · refine al ?_ (trivial)
                  · exact wr64 (by omega) (by omega) (by omega)
                refine lp_end (j + 1) ?_ ?_ ?_
                · show ((j + 1) ≤ (brOf (branchesR (patS (l.take 24)))).length)
                  · first | omega | (intro hg; simp at hg; omega) | (simp; done) | (simp_all; done) | (simp_all; omega) | grind
                · show (brOf (branchesR (patS (l.take 24)))).length - (j + 1) < (brOf (branchesR (patS (l.take 24)))).length - j
                  omega
                · intro A_ W_ hS
                  replace hS := sl_set (d := vbool ((((brOf (branchesR (patS (l.take 24)))).take j).any fun b => mat b (W.getD q [])) || (mat ((brOf (branchesR (patS (l.take 24)))).getD j []) (W.getD q [])))) 15 (vbool (((brOf (branchesR (patS (l.take 24)))).take (j + 1)).any fun b => mat b (W.getD q []))) (by kernel_rfl) (eqD_bool (by exact any_succ (by omega))) hS
                  exact sl_weak (vc := [∀ i, i < W.length → D.p (eS (W.getD i [])) = .p (eS (W.getD i []))]) [0, 1, 2] [5, 7, 9, 10, 14, 15, 67, 68, 69, 73, 74, 75] (by kernel_rfl) (al (fun _ _ => rfl) trivial) hS
              · skip
                refine tr_exit ?_
                refine th_e ?_
                refine th_e ?_
                refine in_hit ?_
                refine tr_then ?_
                refine tr_seq ?_
                refine tr_r (vc := [Pure Try.prog 16 [eLang (unA l), .s (W.getD q [])] (vbool (has (unA l) (W.getD q [])))]) (E' := [(5, none, vbool true), (7, none, .ref 0 []), (9, none, .p ((eL (eL ePiece 38 dPiece) 1 []) (brOf (branchesR (patS (l.take 24)))))), (10, none, vbool true), (67, none, .own 2), (68, none, vint .i64 ((W.length : Nat) : Int)), (69, none, vint .i64 ((q : Nat) : Int)), (90, none, vbool (!((has (unA l) (W.getD q [])) == (((brOf (branchesR (patS (l.take 24)))).take j).any fun b => mat b (W.getD q [])))))]) (H' := [.box (.p (eLang (unA l))), .dead, oL 9 eS 1 [] W]) [] [(2, vbool (has (unA l) (W.getD q [])))] [5, 7, 9, 10, 67, 68, 69, 90] (by kernel_rfl) ?_ ?_
                · refine al ?_ (trivial)
                  · exact has_ok _ _ (by first | omega | (intro hg; simp at hg; omega) | (simp; done) | (simp_all; done) | (simp_all; omega) | grind)
                refine tr_then ?_
                refine tr_condP (!((has (unA l) (W.getD q [])) == (((brOf (branchesR (patS (l.take 24)))).take j).any fun b => mat b (W.getD q [])))) (¬ (has (unA l) (W.getD q [])) = (((brOf (branchesR (patS (l.take 24)))).take j).any fun b => mat b (W.getD q []))) (by simp) (by kernel_rfl) (fun hc5 => ?_) (fun hc5 => ?_)
                · exact absurd hc5 (fun h => h (by rw [me_has (by omega), List.take_of_length_le (show (brOf (branchesR (patS (l.take 24)))).length ≤ j by omega)]; rfl))
                · skip
                  refine tr_skip ?_
                  refine in_n ?_
                  refine tr_then ?_
                  refine tr_r (vc := [(IntKind.wrap .i64 (((q : Nat) : Int) + 1)) = (((q + 1) : Nat) : Int)]) (E' := [(5, none, vbool true), (7, none, .ref 0 []), (9, none, .p ((eL (eL ePiece 38 dPiece) 1 []) (brOf (branchesR (patS (l.take 24)))))), (10, none, vbool true), (67, none, .own 2), (68, none, vint .i64 ((W.length : Nat) : Int)), (69, none, vint .i64 (((q + 1) : Nat) : Int))]) (H' := [.box (.p (eLang (unA l))), .dead, oL 9 eS 1 [] W]) [(0, vint .i64 (((q + 1) : Nat) : Int))] [] [5, 7, 9, 10, 67, 68, 69] (by kernel_rfl) ?_ ?_
                  · refine al ?_ (trivial)
                    · exact wr64 (by omega) (by omega) (by omega)
                  refine lp_end (q + 1) ?_ ?_ ?_
                  · show ((q + 1) ≤ W.length)
                    · first | omega | (intro hg; simp at hg; omega) | (simp; done) | (simp_all; done) | (simp_all; omega) | grind
                  · show W.length - (q + 1) < W.length - q
                    omega
                  · intro A_ W_ hS
                    exact sl_weak (vc := [∀ i, i < W.length → D.p (eS (W.getD i [])) = .p (eS (W.getD i []))]) [0, 1, 2] [5, 7, 9, 10, 67, 68, 69] (by kernel_rfl) (al (fun _ _ => rfl) trivial) hS
          · skip
            refine tr_exit ?_
            refine th_e ?_
            refine th_e ?_
            refine in_hit ?_
            refine tr_then ?_
            refine tr_seq ?_
            refine tr_r (vc := [Pure Try.prog 25 [eLang (unA l)] (.p ((eL eB 1 false) (liveS (unA l))))]) (E' := [(5, none, vbool true), (7, none, .ref 0 []), (10, none, vbool true), (18, none, .p ((eL eB 1 false) (liveS (unA l))))]) (H' := [.box (.p (eLang (unA l))), .dead, oL 9 eS 1 [] W]) [] [(1, .p ((eL eB 1 false) (liveS (unA l))))] [5, 7, 10, 18] (by kernel_rfl) ?_ ?_
            · refine al ?_ (trivial)
              · exact live_ok _
            refine tr_then ?_
            refine tr_seq ?_
            refine tr_seq ?_
            refine tr_r (vc := []) (E' := [(5, none, vbool true), (7, none, .ref 0 []), (10, none, vbool true), (18, none, .p ((eL eB 1 false) (liveS (unA l)))), (94, none, .p ((eL eB 1 false) (liveS (unA l)))), (95, none, vint .i64 (((liveS (unA l)).length : Nat) : Int)), (96, none, vint .i64 0)]) (H' := [.box (.p (eLang (unA l))), .dead, oL 9 eS 1 [] W]) [] [] [5, 7, 10, 18, 94, 95, 96] (by kernel_rfl) ?_ ?_
            · exact trivial
            refine tr_then ?_
            refine tr_block ?_
            refine tr_loop (α := Nat) (fun z : Nat => (fun (i : Nat) => [(5, none, vbool true), (7, none, .ref 0 []), (10, none, vbool true), (18, none, .p ((eL eB 1 false) (liveS (unA l)))), (94, none, .p ((eL eB 1 false) (liveS (unA l)))), (95, none, vint .i64 (((liveS (unA l)).length : Nat) : Int)), (96, none, vint .i64 ((i : Nat) : Int))]) z) (fun z : Nat => (fun (i : Nat) => [.box (.p (eLang (unA l))), .dead, oL 9 eS 1 [] W]) z) (fun z : Nat => (fun (i : Nat) => (i ≤ (liveS (unA l)).length)) z) (fun z : Nat => (fun (i : Nat) => (liveS (unA l)).length - i) z) 0 ?_ ?_ ?_
            · show (0 ≤ (liveS (unA l)).length)
              · first | omega | (intro hg; simp at hg; omega) | (simp; done) | (simp_all; done) | (simp_all; omega) | grind
            · intro A_ W_ hS
              replace hS := sl_set (d := vint .i64 0) 96 (vint .i64 ((0 : Nat) : Int)) (by kernel_rfl) (eqD_int (by first | omega | (intro hg; simp at hg; omega) | (simp; done) | (simp_all; done) | (simp_all; omega) | grind)) hS
              exact sl_weak (vc := [∀ i, i < W.length → D.p (eS (W.getD i [])) = .p (eS (W.getD i []))]) [0, 1, 2] [5, 7, 10, 18, 94, 95, 96] (by kernel_rfl) (al (fun _ _ => rfl) trivial) hS
            · intro z hz
              revert z; intro i hz
              have hz : (i ≤ (liveS (unA l)).length) := hz
              have hi3_0 := hz
              have hlv := me_live (l := l) (by omega)
              refine tr_seq ?_
              refine tr_r (vc := []) (E' := [(5, none, vbool true), (7, none, .ref 0 []), (10, none, vbool true), (18, none, .p ((eL eB 1 false) (liveS (unA l)))), (94, none, .p ((eL eB 1 false) (liveS (unA l)))), (95, none, vint .i64 (((liveS (unA l)).length : Nat) : Int)), (96, none, vint .i64 ((i : Nat) : Int)), (97, none, vbool (decide (((i : Nat) : Int) < (((liveS (unA l)).length : Nat) : Int))))]) (H' := [.box (.p (eLang (unA l))), .dead, oL 9 eS 1 [] W]) [] [] [5, 7, 10, 18, 94, 95, 96, 97] (by kernel_rfl) ?_ ?_
              · exact trivial
              refine tr_then ?_
              refine tr_seq ?_
              refine tr_condP (decide (((i : Nat) : Int) < (((liveS (unA l)).length : Nat) : Int))) (((i : Nat) : Int) < (((liveS (unA l)).length : Nat) : Int)) (by simp) (by kernel_rfl) (fun hc6 => ?_) (fun hc6 => ?_)
              · skip
                refine tr_skip ?_
                refine tr_then ?_
                refine tr_seq ?_
                refine tr_block ?_
                refine tr_seq ?_
                refine tr_r (vc := [(0 : Int) ≤ ((i : Nat) : Int), ((i : Nat) : Int) < ((liveS (unA l)).length : Int)]) (E' := [(5, none, vbool true), (7, none, .ref 0 []), (10, none, vbool true), (18, none, .p ((eL eB 1 false) (liveS (unA l)))), (20, none, vbool ((liveS (unA l)).getD i false)), (94, none, .p ((eL eB 1 false) (liveS (unA l)))), (95, none, vint .i64 (((liveS (unA l)).length : Nat) : Int)), (96, none, vint .i64 ((i : Nat) : Int))]) (H' := [.box (.p (eLang (unA l))), .dead, oL 9 eS 1 [] W]) [] [] [5, 7, 10, 18, 20, 94, 95, 96] (by kernel_rfl) ?_ ?_
                · refine al ?_ (al ?_ (trivial))
                  · first | omega | (intro hg; simp at hg; omega) | (simp; done) | (simp_all; done) | (simp_all; omega) | grind
                  · first | omega | (intro hg; simp at hg; omega) | (simp; done) | (simp_all; done) | (simp_all; omega) | grind
                refine tr_then ?_
                refine tr_seq ?_
                refine tr_r (vc := []) (E' := [(5, none, vbool true), (7, none, .ref 0 []), (10, none, vbool true), (18, none, .p ((eL eB 1 false) (liveS (unA l)))), (94, none, .p ((eL eB 1 false) (liveS (unA l)))), (95, none, vint .i64 (((liveS (unA l)).length : Nat) : Int)), (96, none, vint .i64 ((i : Nat) : Int)), (101, none, vbool (!((liveS (unA l)).getD i false)))]) (H' := [.box (.p (eLang (unA l))), .dead, oL 9 eS 1 [] W]) [] [] [5, 7, 10, 18, 94, 95, 96, 101] (by kernel_rfl) ?_ ?_
                · exact trivial
                refine tr_then ?_
                refine tr_condP (!((liveS (unA l)).getD i false)) (((liveS (unA l)).getD i false) = false) (by simp) (by kernel_rfl) (fun hc7 => ?_) (fun hc7 => ?_)
                · skip
                  refine tr_seq ?_
                  refine tr_r (vc := []) (E' := [(4, none, vbool false)]) (H' := [.box (.p (eLang (unA l))), .dead, oL 9 eS 1 [] W]) [] [] [4] (by kernel_rfl) ?_ ?_
                  · exact trivial
                  refine tr_then ?_
                  refine tr_pre (E' := [(4, none, vbool false)]) (H' := []) (fun A_ W_ hS => sl_weak (vc := []) [] [4] (by kernel_rfl) trivial hS) ?_
                  refine tr_pre (E' := (4, none, vbool true) :: [(4, none, vbool false)]) (H' := []) (fun A_ W_ hS => sl_set_imp (d := vbool false) 4 (vbool true) (by kernel_rfl) ?_ hS) ?_
                  · refine imp_eq (congrArg (fun x => D.p (eB x)) (a₁ := false) (a₂ := true) ?_)
                    first | rfl | (simp; done) | omega | (simp_all; done) | grind
                  refine tr_pre (E' := [(4, none, vbool true)]) (H' := []) (fun A_ W_ hS => sl_proj (ts := [4]) (by kernel_rfl) hS) ?_
                  exact tr_return' (vc := []) (ds := [vbool true]) (by kernel_rfl) trivial (by kernel_rfl) (fun _ _ h => h)
                · skip
                  refine tr_skip ?_
                  refine in_n ?_
                  refine tr_then ?_
                  refine tr_r (vc := [(IntKind.wrap .i64 (((i : Nat) : Int) + 1)) = (((i + 1) : Nat) : Int)]) (E' := [(5, none, vbool true), (7, none, .ref 0 []), (10, none, vbool true), (18, none, .p ((eL eB 1 false) (liveS (unA l)))), (94, none, .p ((eL eB 1 false) (liveS (unA l)))), (95, none, vint .i64 (((liveS (unA l)).length : Nat) : Int)), (96, none, vint .i64 (((i + 1) : Nat) : Int))]) (H' := [.box (.p (eLang (unA l))), .dead, oL 9 eS 1 [] W]) [(0, vint .i64 (((i + 1) : Nat) : Int))] [] [5, 7, 10, 18, 94, 95, 96] (by kernel_rfl) ?_ ?_
                  · refine al ?_ (trivial)
                    · exact wr64 (by omega) (by omega) (by omega)
                  refine lp_end (i + 1) ?_ ?_ ?_
                  · show ((i + 1) ≤ (liveS (unA l)).length)
                    · first | omega | (intro hg; simp at hg; omega) | (simp; done) | (simp_all; done) | (simp_all; omega) | grind
                  · show (liveS (unA l)).length - (i + 1) < (liveS (unA l)).length - i
                    omega
                  · intro A_ W_ hS
                    exact sl_weak (vc := [∀ i, i < W.length → D.p (eS (W.getD i [])) = .p (eS (W.getD i []))]) [0, 1, 2] [5, 7, 10, 18, 94, 95, 96] (by kernel_rfl) (al (fun _ _ => rfl) trivial) hS
              · skip
                refine tr_exit ?_
                refine th_e ?_
                refine th_e ?_
                refine in_hit ?_
                refine tr_then ?_
                refine tr_seq ?_
                refine tr_r (vc := [true = true → true = true, (true || false) = true → (true || false) = true, (true || false) = true → (true || false) = true, (true || false) = true → (true || false) = true, (true || false) = true → (true || false) = true, (true || false) = true → (true || false) = true, (true || false) = true → (true || false) = true, ((true || false) && ((((liveS (unA l)).length : Nat) : Int) == ((((unA l).Accept).length : Nat) : Int))) = true → ((true || false) && ((((liveS (unA l)).length : Nat) : Int) == ((((unA l).Accept).length : Nat) : Int))) = true, ((true || false) && ((((liveS (unA l)).length : Nat) : Int) == ((((unA l).Accept).length : Nat) : Int))) = true → (Pure Try.prog 20 [eLang (unA l)] (vint .i64 (check (unA l)))), ((true || false) && ((((liveS (unA l)).length : Nat) : Int) == ((((unA l).Accept).length : Nat) : Int))) = true → ((true || false) && ((((liveS (unA l)).length : Nat) : Int) == ((((unA l).Accept).length : Nat) : Int))) = true, ((true || false) && ((((liveS (unA l)).length : Nat) : Int) == ((((unA l).Accept).length : Nat) : Int))) = true → ((true || false) && ((((liveS (unA l)).length : Nat) : Int) == ((((unA l).Accept).length : Nat) : Int))) = true]) (E' := [(4, none, vbool (((true || false) && ((((liveS (unA l)).length : Nat) : Int) == ((((unA l).Accept).length : Nat) : Int))) && ((check (unA l)) == 0)))]) (H' := [.box (.p (eLang (unA l))), .dead, oL 9 eS 1 [] W]) [] [(14, vint .i64 (check (unA l)))] [4] (by kernel_rfl) ?_ ?_
                · refine al ?_ (al ?_ (al ?_ (al ?_ (al ?_ (al ?_ (al ?_ (al ?_ (al ?_ (al ?_ (al ?_ (trivial)))))))))))
                  · exact id
                  · exact id
                  · exact id
                  · exact id
                  · exact id
                  · exact id
                  · exact id
                  · exact id
                  · intro _; exact check_ok _
                  · exact id
                  · exact id
                refine tr_then ?_
                refine tr_pre (E' := [(4, none, vbool (((true || false) && ((((liveS (unA l)).length : Nat) : Int) == ((((unA l).Accept).length : Nat) : Int))) && ((check (unA l)) == 0)))]) (H' := []) (fun A_ W_ hS => sl_weak (vc := []) [] [4] (by kernel_rfl) trivial hS) ?_
                refine tr_pre (E' := (4, none, vbool true) :: [(4, none, vbool (((true || false) && ((((liveS (unA l)).length : Nat) : Int) == ((((unA l).Accept).length : Nat) : Int))) && ((check (unA l)) == 0)))]) (H' := []) (fun A_ W_ hS => sl_set_imp (d := vbool (((true || false) && ((((liveS (unA l)).length : Nat) : Int) == ((((unA l).Accept).length : Nat) : Int))) && ((check (unA l)) == 0))) 4 (vbool true) (by kernel_rfl) ?_ hS) ?_
                · refine imp_eq (congrArg (fun x => D.p (eB x)) (a₁ := (((true || false) && ((((liveS (unA l)).length : Nat) : Int) == ((((unA l).Accept).length : Nat) : Int))) && ((check (unA l)) == 0))) (a₂ := true) ?_)
                  have h1 := me_live (l := l) (by omega); have h2 := me_check (l := l) (by omega); simp [h1.1, h2]
                refine tr_pre (E' := [(4, none, vbool true)]) (H' := []) (fun A_ W_ hS => sl_proj (ts := [4]) (by kernel_rfl) hS) ?_
                exact tr_return' (vc := []) (ds := [vbool true]) (by kernel_rfl) trivial (by kernel_rfl) (fun _ _ h => h)
end Go.Proofs.Ytjnjmnfacaakfaa
namespace Go.Proofs.Ytjnjmnfacaakfaa
open Go.Eng Go.ChangeShapes Go.WideShapes Go.ChangeAt Go.RowKit Go.Deep
set_option maxRecDepth 100000 in
theorem means_contract (H : Type) (enc : TypeId × Value → H) (W : World) (base : Nat) (args : Array Value) (ds gs : List (DataW H)) (before : List MemPlace)
    (hval : ∀ (j : Nat) t v, Try.f7.params[j]? = some t → args[j]? = some v → Value.okWide Try.prog W .any base t v)
    (hW : DataW.Whole enc Try.prog Try.f7.params.toList Rows.languageMeansSpec.vars false W args.toList ds gs before)
    (hz : (DataW.weightsEach Try.prog (Try.f7.params.toList ++ Rows.languageMeansSpec.plain.varTypes Try.prog) (ds ++ gs)).all (· ≤ reachBytes) = true) :
    Calls Try.prog 7 args W fun e W' => ∃ v, e = .returned v ∧ Rows.languageMeansSpec.post enc Try.prog Try.f7 false true false false W args v W' := by
  refine contract_of (tb := 4) laidOut_ ?_ rfl Try.underlying4 rfl ?_ hval hW hz ?_
  · intro t ht
    have ht' : t ∈ [22, 30] := ht
    simp only [List.mem_cons, List.not_mem_nil, or_false] at ht'
    rcases ht' with rfl | rfl
    · exact readable22_
    · exact readable30_
  · intro ds hds
    match ds, hds with
    | [_, _], _ => exact ⟨rfl, rfl, rfl⟩
  · intro hO
    obtain ⟨v0, d0, p0, e0, k0, t0, w0⟩ := hO 0 22 rfl
    obtain ⟨v2, d2, p2, e2, k2, t2, w2⟩ := hO 1 30 rfl
    obtain ⟨l, a0, g0⟩ := arg_ints Try.underlying22 Try.underlying3 cells3_ k0 t0
    obtain ⟨n, a2, g2⟩ := arg_rows Try.underlying30 Try.underlying22 Try.underlying3 cells22_ cells3_ k2 t2
    have z2 := weigh_sl Try.underlying30 bytes22_ g2 w2
    refine ⟨_, means_ok l n z2.1 (fun k hk => ?_), rfl, ?_⟩
    · obtain ⟨d', h1, h2⟩ := z2.2 k hk
      exact (weigh_sl Try.underlying22 bytes3_ h1 h2).1
    · intro j p v hp hv
      match j, hp, hv with
      | 0, hp, hv => cases hp; cases e0.symm.trans hv; exact a0
      | 1, hp, hv => cases hp; cases e2.symm.trans hv; exact a2
set_option maxRecDepth 100000 in
theorem means_lifted (os : Os) (started : os.Started) (H : Type) (enc : TypeId × Value → H) :
    ReturnsInHanded {} Try.checked os 7 .any (Rows.languageMeansSpec.pre6 enc Try.prog Try.f7 Rows.languageMeansRow.domain false) (Rows.languageMeansSpec.post enc Try.prog Try.f7 false true false false) := by
  refine returnsInHanded_of_change_sized (C := Try.checked) own_ started (by kernel_rfl) Try.func7
    (ChangeSpec.witness6 (enc := enc) (C := Try.checked) false ⟨#[], #[.slice none 0 0, .slice none 0 0], []⟩ 8 (by kernel_rfl) (by kernel_rfl) (by kernel_rfl) (by kernel_rfl)) ?_
  intro W base args ds gs before hval hW _ hz _
  exact means_contract H enc W base args ds gs before hval hW hz
theorem meansProved : Rows.LanguageMeansSaid :=
  OpenClaim.holds_of_wide 7 Try.f7 rfl rfl rfl rfl rfl rfl rfl ⟨rfl, rfl, rfl, rfl, rfl⟩ rfl rfl rfl rfl rfl (by kernel_rfl) Try.func7 (by kernel_rfl)
    (of_decide_eq_true (by kernel_rfl)) (by unfold Func.isWrapper; first | (rw [if_pos (by decide +kernel)]; kernel_rfl) | (rw [if_neg (by decide +kernel)]; exact ⟨rfl, rfl⟩))
    (fun os started H enc _ => means_lifted os started H enc)
end Go.Proofs.Ytjnjmnfacaakfaa
