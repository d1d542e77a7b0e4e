/-
  GlyphReaches: whatever the input, the call returns true, and each argument reads afterwards as it read before; tied to the program's text. (Part 3 of 6 of its proof.)
-/
import Derived.Test.YtekhlnihpfkkkaaGreatDoorCG2
import Derived.Test.YtekhlnihpfkkkaaGreatDoorRows
set_option linter.unusedSimpArgs false
set_option linter.unusedVariables false
namespace Go.Eng
open Go.RowKit
section
variable {C : Cx} {E E' : Env} {H H' : List O} {Q : Exit → Act → World → Prop} {a : Act} {w : World} {CALL : YW → CallW} {Y : YW}
theorem one_base {F} {γ : Gm} {ds : List D} {vs : List Value} (hl : vs.length = ds.length) (h : ∀ (i : Nat) d v, ds[i]? = some d → vs[i]? = some v → RelV F γ d v) :
  RelV F γ (one ds) (if h : vs.length = 1 then vs[0] else .tuple vs.toArray) := by
 by_cases h1 : vs.length = 1
 ·rw [dif_pos h1]
  match vs, h1, ds, hl with
  | [v], _, [d], _ => exact h 0 d v rfl rfl
 ·rw [dif_neg h1]
  have : one ds = .tup ds := by
   unfold one
   split
   ·simp at hl; omega
   ·rfl
  rw [this]
  exact .tup hl h
theorem fitP_sound {fid : Nat} {E1 ek : Env} {H1 : List O} {oc : List Nat} (hf : fitP C.γ0.length C.B.n fid E1 ek H1 oc E H) (hS : SL C E H a w) : SL C (E1 ++ ek) H1 a w := by
 unfold fitP at hf
 split at hf
 ·rename_i vc hv
  exact fit_sound hv hf hS
 ·exact hf.elim
theorem WJ_sound {fid : Nat} {J : Option JH} {W : KC → Prop} {K : KC} {c : Code} {rf : Bool} (hw : WJ C.γ0.length C.B.n fid J W K)
  (hW : ∀ K' : KC, W K' → (∀ C2, Ext C C2 → (rf = false → C2 = C) → ∀ e L E' H' a w, K' e L E' H' → SL C2 E' H' a w → Q e.of a w) → Tr C c E H Q)
  (hk : ∀ C2, Ext C C2 → (rf = false → C2 = C) → ∀ e L E' H' a w, K e L E' H' → SL C2 E' H' a w → Q e.of a w) : Tr C c E H Q := by
 unfold WJ at hw
 split at hw
 ·exact hW K hw hk
 ·rename_i J
  rw [fI_eq, fI_eq, fH_eq, fI_eq] at hw
  refine hW _ hw.1 fun C2 e2 f2 e L E' H' a w hK hS => ?_
  cases e with
  | n =>
   have hS2 : SL C2 (J.E1 ++ J.ek) J.H1 a w := by
    obtain ⟨R, ms, rfl, e3⟩ := e2.eq
    simp only [fitZ] at hK
    split at hK
    ·rename_i vc H2 hsay
     exact fitP_sound hK.2 (sayB_spec hsay hK.1 hS)
    ·exact hK.elim
   exact hk C2 e2 f2 .n [] _ _ a w hw.2 hS2
  | x i => exact hk C2 e2 f2 (.x i) _ _ _ a w hK hS
  | r => exact hk C2 e2 f2 .r _ _ _ a w hK hS
theorem WC_sound {fid : Nat} {h : FH} : ∀ {c : Code} {rf : Bool} {C : Cx}, SoundG C.P C.γ0.length CALL → YOK C Y → ∀ {L : List Nat} {E : Env} {H : List O} {K : KC} {Q : Exit → Act → World → Prop}, WC C.P C.γ0.length C.B.n C.N CALL Y fid h c rf L E H K →
  (∀ C2, Ext C C2 → (rf = false → C2 = C) → ∀ e L E' H' a w, K e L E' H' → SL C2 E' H' a w → Q e.of a w) → Tr C c E H Q := by
 intro c
 induction c with
 | skip => intro rf C hC hY L E H K Q hw hk; exact tr_skip fun a w hS => hk _ (Ext.refl _) (fun _ => rfl) .n _ _ _ a w hw hS
 | region id ops draw =>
  intro rf C hC hY L E H K Q hw hk
  simp only [WC] at hw
  split at hw
  ·rename_i l t hsp
   split at hw
   ·rename_i hrf
    simp only [Bool.and_eq_true, Bool.not_eq_true'] at hrf
    obtain ⟨rfl, rfl⟩ := hrf
    obtain ⟨ls⟩ := ops
    unfold splitD at hsp
    split at hsp
    ·rename_i t' args ts ty pos aft r hrev
     split at hsp
     ·rename_i hemp
      simp only [Option.some.injEq, Prod.mk.injEq] at hsp
      obtain ⟨rfl, rfl⟩ := hsp
      have hls : ls = r.reverse ++ [⟨none, .defer ⟨.value (.tmp t'), args, ts⟩, ty, pos, aft, none⟩] := by
       have := congrArg List.reverse hrev
       simpa using this
      intro a w hS
      refine (wpIn_wide (n := 1)).1 (wpIn_region_lit ?_)
      have key := WL_soundR (ro := none) (n := 1) (rest := [⟨none, .defer ⟨.value (.tmp t'), args, ts⟩, ty, pos, aft, none⟩]) (Q := Q) hC hY (.inl rfl) hS hw (fun L' E' H' a' w' hK hS' => ?_)
      ·rw [hls] at key ⊢
       exact key
      ·obtain ⟨⟨F, γ, h1, h2⟩, h3, h4⟩ := hS'
       split at hK
       ·rename_i f ca hg
        split at hK
        ·rename_i hcl
         simp only [Bool.and_eq_true] at hcl
         obtain ⟨v, e1, e2⟩ := (h2 _ _ _ hg).1 trivial
         obtain ⟨us, vs, hv, hu, hvs⟩ : ∃ us vs : List Value, v = .func (.func f) us.toArray vs.toArray ∧ RelD F γ (.agg []) us ∧ RelD F γ (.agg ca) vs := by
          cases e2 with
          | one _ e2 => cases e2 with | fn k1 k2 => exact ⟨_, _, rfl, k1, k2⟩
          | many hm => cases hm
         cases hu
         subst hv
         obtain ⟨s1, _⟩ := relD_list hvs (allOne_spec hcl.2)
         unfold wpListIn
         rw [if_pos (by simp [Region.wanted])]
         refine ⟨fun f _ => fen_fn none f, ?_⟩
         have hrun : (Oper.semAt (fen none).round a'.eval ⟨none, .defer ⟨.value (.tmp t'), args, ts⟩, ty, pos, aft, none⟩).run C.P w' = .ok (.defer { target := .fn (.func f) vs.toArray, args := #[] }) w' := by
          rw [fen_round]
          have ha : args = #[] := by simpa using hemp
          subst ha
          simp [Oper.semAt, execOp, resolve, Deferred.ofValue, eval_tmp e1]
         rw [hrun]
         show Q .normal _ w'
         refine hk { C with D := [dOf (.inr (f, vs.toArray))] ++ C.D } ⟨⟨C.R, [.inr (f, vs.toArray)], rfl, fun _ _ h => h, (List.nodup_nil : ([] : List Nat).Nodup), fun r hr => (by simp at hr), fun x hx => ?_⟩⟩ (fun h => by cases h) .n _ _ _ _ w' hK.2 ⟨⟨F, γ, h1.base' (N := C.N) (B := C.B) (D := [dOf (.inr (f, vs.toArray))] ++ C.D) h1.base, h2⟩, h3, ?_⟩
         ·simp only [List.mem_singleton, Sum.inr.injEq] at hx
          subst hx
          refine ⟨hcl.1, ?_⟩
          have := hK.1
          simp only [List.size_toArray]
          rw [s1]; exact this
         ·show _ :: a'.defers = _
          rw [h4]; rfl
        ·exact hK.elim
       ·exact hK.elim
     ·cases hsp
    ·cases hsp
   ·exact hw.elim
  ·exact WJ_sound hw (fun K' hw hk => WF_sound hC hY hw fun L E' H' a w hK hS => hk _ (Ext.refl _) (fun _ => rfl) .n _ _ _ a w hK hS) hk
 | seq x y ix iy =>
  intro rf C hC hY L E H K Q hw hk
  refine tr_seq (ix hC hY hw fun C2 e2 f2 e L E' H' a w hK hS => ?_)
  cases e with
  | n =>
   obtain ⟨R, ms, rfl, e3⟩ := e2.eq
   exact iy (C := { C with R := R, D := _ }) hC (hY.over ⟨rfl, rfl, rfl, rfl, e3.1, fun _ _ h => h⟩) hK (fun C3 e4 f4 e L E' H' a w hK hS => hk C3 (e2.trans e4) (fun hf => by rw [f4 hf]; exact f2 hf) e L E' H' a w hK hS) a w hS
  | x i => exact hk C2 e2 f2 (.x i) _ _ _ a w hK hS
  | r => exact hk C2 e2 f2 .r _ _ _ a w hK hS
 | cond t x y ix iy =>
  intro rf C hC hY L E H K Q hw hk
  cases t with
  | tmp t =>
   simp only [WC] at hw
   split at hw
   ·rename_i v hg
    refine WJ_sound hw (fun K2 hw2 hk2 => ?_) hk
    cases hs : (h.sp.any (Nat.beq t) && !L.any (Nat.beq t)) with
    | true =>
     rw [hs] at hw2
     exact tr_cond v hg (fun hv => ix hC hY (hw2.1 hv) hk2) (fun hv => iy hC hY (hw2.2 hv) hk2)
    | false =>
     rw [hs] at hw2
     cases v with
     | true => exact tr_cond true hg (fun _ => ix hC hY hw2 hk2) (fun hv => by cases hv)
     | false => exact tr_cond false hg (fun hv => by cases hv) (fun _ => iy hC hY hw2 hk2)
   ·exact hw.elim
  | const v =>
   cases v with
   | bool v =>
    simp only [WC] at hw
    cases v with
    | true => exact fun a w hS => wp_cond_true rfl (ix hC hY hw hk a w hS)
    | false => exact fun a w hS => wp_cond_false rfl (iy hC hY hw hk a w hS)
   | _ => exact hw.elim
  | _ => exact hw.elim
 | block id b ib =>
  intro rf C hC hY L E H K Q hw hk
  refine tr_block (ib hC hY hw fun C2 e2 f2 e L E' H' a w hK hS => ?_)
  cases e with
  | n => exact hk C2 e2 f2 .n _ _ _ a w hK hS
  | x i =>
   show (if i = id then _ else _)
   cases hi : Nat.beq i id with
   | true =>
    simp only [hi] at hK
    rw [if_pos (Nat.eq_of_beq_eq_true hi)]
    exact hk C2 e2 f2 .n _ _ _ a w hK hS
   | false =>
    simp only [hi] at hK
    rw [if_neg (Nat.ne_of_beq_eq_false hi)]
    exact hk C2 e2 f2 (.x i) _ _ _ a w hK hS
  | r => exact hk C2 e2 f2 .r _ _ _ a w hK hS
 | exit id => intro rf C hC hY L E H K Q hw hk; exact tr_exit fun a w hS => hk _ (Ext.refl _) (fun _ => rfl) (.x id) _ _ _ a w hw hS
 | ret =>
  intro rf C hC hY L E H K Q hw hk
  refine tr_ret fun a w hS => ?_
  obtain ⟨H1, h1, hS1⟩ := fTH_spec hw hS
  split at h1
  ·rename_i vc E2 H2 h2
   have h3 := andL_spec h1
   exact hk _ (Ext.refl _) (fun _ => rfl) .r _ _ _ a w h3.2 (frzAll_sl h2 h3.1 (keepR_sl hS1))
  ·exact h1.elim
 | label l => intro rf C hC hY L E H K Q hw hk a w hS; exact wp_label (hk _ (Ext.refl _) (fun _ => rfl) .n _ _ _ a w hw hS)
 | scope b ib =>
  intro rf C hC hY L E H K Q hw hk a w hS
  refine wp_scope_straight (ib hC hY hw (fun C2 e2 f2 e L E' H' a' w' hK hS' => ?_) a w hS)
  cases e with
  | n => exact hk C2 e2 f2 .n _ _ _ a' w' hK hS'
  | x i => exact hk C2 e2 f2 (.x i) _ _ _ a' w' hK hS'
  | r => exact hk C2 e2 f2 .r _ _ _ a' w' hK hS'
 | loop b ib =>
  intro rf C hC hY L E H K Q hw hk
  simp only [WC] at hw
  split at hw
  ·have key : ∀ (n : Nat) (L : List Nat) (E : Env) (H : List O), loopW fid (WC C.P C.γ0.length C.B.n C.N CALL Y fid h b false) n L E H K → ∀ a w, SL C E H a w → Code.rounds C.P b Q n a w := by
    intro n
    induction n with
    | zero => exact fun L E H hl => hl.elim
    | succ n ihn =>
     intro L E H hl a w hS
     rw [rounds_succ]
     refine ib hC hY hl (fun C2 e2 f2 e L E' H' a' w' hK hS' => ?_) a w hS
     obtain rfl := f2 rfl
     cases e with
     | n => exact ihn _ _ _ hK a' w' hS'
     | x i => exact hk _ (Ext.refl _) (fun _ => rfl) (.x i) _ _ _ a' w' hK hS'
     | r => exact hk _ (Ext.refl _) (fun _ => rfl) .r _ _ _ a' w' hK hS'
   exact fun a w hS => wp_loop_rounds h.rounds (key _ _ _ _ hw a w hS)
  ·rename_i l _
   have fit : ∀ {E1 ek : Env} {H1 : List O} {oc : List Nat} {E : Env} {H : List O} {a : Act} {w : World}, fitP C.γ0.length C.B.n fid E1 ek H1 oc E H → SL C E H a w → SL C (E1 ++ ek) H1 a w := by
    intro E1 ek H1 oc E H a w hf hS
    unfold fitP at hf
    split at hf
    ·rename_i vc hv
     exact fit_sound hv hf hS
    ·exact Stuck.elim hf
   obtain ⟨⟨x0, h0, hf0⟩, hw⟩ := hw
   refine tr_loop (fun z => l.E1 z ++ l.ek) l.H1 l.inv l.μ x0 h0 (fun a w hS => fit hf0 hS) fun z hz => ib hC hY (hw z hz) fun C2 e2 f2 e L E' H' a w hK hS => ?_
   obtain rfl := f2 rfl
   cases e with
   | n =>
    obtain ⟨y, h1, h2, h3⟩ := hK
    exact ⟨y, h1, h2, fit h3 hS⟩
   | x i => exact hk _ (Ext.refl _) (fun _ => rfl) (.x i) _ _ _ a w hK hS
   | r => exact hk _ (Ext.refl _) (fun _ => rfl) .r _ _ _ a w hK hS
 | rangeFunc g ps asn body ia ib =>
  intro rf C hC hY L E H K Q hw hk
  cases rf with
  | false => exact hw.elim
  | true =>
   simp only [WC] at hw
   split at hw
   ·rename_i f fi ca hc
    split at hw
    ·rename_i hcd
     simp only [Bool.and_eq_true] at hcd
     rw [fN_eq, fN_eq, fH_eq, fLD_eq] at hw
     exact range_sound (Kn := fun H' => K .n L E H') (K := id) hC hY hc hcd.1 hcd.2.1 hcd.2.2 hw fun C2 e2 H' a w hK hS => hk C2 e2 (fun h => by cases h) .n _ _ _ a w hK hS
    ·exact hw.elim
   ·exact hw.elim
 | _ => intros; rename_i hw _; exact hw.elim
theorem argED_get : ∀ {l : List D} {k t : Nat} {g d}, (argED l k).get t = some (g, d) → g = none ∧ k ≤ t ∧ l[t - k]? = some d
 | [], _, _, _, _, h => by cases h
 | p :: l, k, t, g, d, h => by
  simp only [argED, Env.get] at h
  cases hb : Nat.beq k t with
  | true =>
   rw [hb] at h
   simp only [cond_true, Option.some.injEq, Prod.mk.injEq] at h
   obtain ⟨rfl, rfl⟩ := h
   rw [Nat.eq_of_beq_eq_true hb]
   exact ⟨rfl, Nat.le_refl _, by simp⟩
  | false =>
   rw [hb] at h
   obtain ⟨h1, h2, h3⟩ := argED_get h
   exact ⟨h1, by omega, by rw [show t - k = (t - (k + 1)) + 1 from by omega, List.getElem?_cons_succ]; exact h3⟩
theorem sl_enter {F γ} {N : Nat} {args : List D} {vs : List Value} (hN : C.N = N) (hD : C.D = []) (hle : args.length ≤ N) (hS : SLH C F γ H w) (hlen : vs.length = args.length) (hrel : ∀ (i : Nat) d v, args[i]? = some d → vs[i]? = some v → RelV F γ d v) :
  SL C (argED args 0) H { tmps := vs.toArray ++ Array.replicate (N - vs.toArray.size) undef, defers := [] } w := by
 refine ⟨⟨F, γ, hS, ?_⟩, by simp [hlen, hN]; omega, hD.symm⟩
 intro t g d ht
 obtain ⟨rfl, _, hp⟩ := argED_get ht
 rw [Nat.sub_zero] at hp
 have hlt : t < vs.length := by rw [hlen]; exact (List.getElem?_eq_some_iff.1 hp).1
 refine ⟨fun _ => ⟨vs[t], ?_, hrel t d _ hp (List.getElem?_eq_getElem hlt)⟩, fun hn => absurd trivial hn⟩
 rw [Array.getElem?_append_left (by simpa using hlt)]
 simp [hlt]
end
theorem leaves_marks {P : Program} {fn : Func} {tmps : Array Value} {Rt : Ending → World → Prop} {n : Nat} {F γ} {H : List O} : ∀ (ms : List (Nat ⊕ (FuncId × Array Value))) (C : Cx) (w : World), C.P = P → (ms.filterMap Sum.getLeft?).Nodup → (∀ r, .inl r ∈ ms → C.R r = some (.deferred (some [])) ∧ C.w0.heap.size ≤ r) → (∀ x, .inr x ∈ ms → callable P x.1 = true ∧ Idle P x.1 x.2.size) → SLH C F γ H w →
  (∀ R w', (∀ b o, C.R b = some o → .inl b ∉ ms → R b = some o) → SLH { C with R := R } F γ H w' → ∃ v, (results fn tmps).run P w' = .ok v w' ∧ Rt (.returned v) w') → LeavesInM Fence.wide n P fn tmps Rt (ms.map dOf) .returning w
 | [], C, w, _, _, _, _, hS, hfin => hfin C.R w (fun _ _ h _ => h) hS
 | .inl r :: ms, C, w, hP, hnd, hms, hid, hS, hfin => by
  obtain ⟨h1, h2⟩ := hms r List.mem_cons_self
  have hraw := hS.raw r _ h1
  simp only [List.filterMap_cons, Sum.getLeft?_inl] at hnd
  rw [List.nodup_cons] at hnd
  refine ⟨by simp, .inl ⟨r, _, rfl, run_takeDeferred hraw.1, ?_⟩⟩
  refine leaves_marks ms { C with R := updR C.R r (.deferred none) } _ hP hnd.2 (fun x hx => ?_) (fun x hx => hid x (List.mem_cons_of_mem _ hx)) (hS.putRaw h1 h2) (fun R w' hR h => hfin R w' (fun b o hb hbm => hR b o ?_ fun hm => hbm (List.mem_cons_of_mem _ hm)) h)
  ·obtain ⟨k1, k2⟩ := hms x (List.mem_cons_of_mem _ hx)
   refine ⟨?_, k2⟩
   simp only [updR]
   rw [if_neg (fun e => hnd.1 (mem_left.2 (by rw [← e]; exact hx)))]
   exact k1
  ·simp only [updR]
   rw [if_neg (fun e => hbm (by rw [e]; exact List.mem_cons_self))]
   exact hb
 | .inr x :: ms, C, w, hP, hnd, hms, hid, hS, hfin => by
  obtain ⟨h1, h2⟩ := hid x List.mem_cons_self
  have hrest := leaves_marks (n := n) ms C w hP hnd (fun r hr => hms r (List.mem_cons_of_mem _ hr)) (fun y hy => hid y (List.mem_cons_of_mem _ hy)) hS fun R w' hR h => hfin R w' (fun b o hb hbm => hR b o hb fun hm => hbm (List.mem_cons_of_mem _ hm)) h
  refine ⟨by simp, .inr ⟨fun h => (by cases h), .func x.1, x.2, x.1, #[] ++ x.2, rfl, run_callFunc h1 _ w, fun _ _ => trivial, (h2 _ (#[] ++ x.2) w (by simp)).mono ?_⟩⟩
  rintro e u' w' ⟨⟨v, rfl⟩, rfl, rfl⟩
  exact hrest
theorem WCall_sound (P : Program) (m0 : Nat) (h : FuncId → FH) : ∀ (n : Nat), SoundG P m0 (WCall P m0 h n)
 | 0 => fun _ _ _ _ _ _ _ _ _ hw => hw.elim
 | n + 1 => by
  intro C Y hP hm hY f args H K hw F γ w vs hS hlen hrel R hR
  subst hP hm
  simp only [WCall] at hw
  split at hw
  ·rename_i fn hf
   split at hw
   ·rename_i c hb
    split at hw
    ·rename_i hle
     rw [fN_eq] at hw
     let C' : Cx := { C with N := fn.ntmps, B := C.B.low F γ H.length, D := [] }
     have hS' : SLH C' F γ H w := hS.base' ⟨hS.base, fun _ _ x => x, fun _ _ _ x => x⟩
     refine callsIn_wide.1 (callsIn_of_wp_marks (F := Fence.wide) (n := 1) hf hb trivial ?_)
     refine wpIn_wide.2 (WC_sound (C := C') (WCall_sound C.P C.γ0.length h n) (hY.over ⟨rfl, rfl, rfl, rfl, fun _ _ h => h, fun _ _ h => h.1⟩) hw (fun C2 e2 _ e L' E' H' a w' hK hSL => ?_) _ w (sl_enter rfl rfl (Nat.le_of_ble_eq_true hle) hS' hlen hrel))
     obtain ⟨R2, ms, rfl, x1, x2, x3, x4⟩ := e2.eq
     obtain ⟨⟨F', γ', k1, k2⟩, k3, k4⟩ := hSL
     have fin : ∀ {vc ds}, evRess C.P H' E' fn.results.toList = some (vc, ds) → andL true vc (fLw (fD 3) ds fun ds => K (one ds) H') → LeavesInM Fence.wide 1 C.P fn a.tmps R a.defers .returning w' := by
      intro vc ds h1 h2
      have h2 := andL_spec h2
      rw [fLD_eq] at h2
      rw [k4]
      show LeavesInM _ _ _ _ _ _ (ms.map _ ++ []) _ _
      rw [List.append_nil]
      refine leaves_marks ms { C' with R := R2, D := ms.map dOf ++ C'.D } w' rfl x2 (fun r hr => (x3 r hr).2) x4 k1 fun R3 w3 hR3 h3 => ?_
      obtain ⟨vs', g1, g2, g3⟩ := evRess_sound h3 k2 h1 h2.1
      have h4 : SLH C F' γ' H' w3 := by
       have hb := h3.base
       refine ⟨h3.sub, hb.1, h3.glob, h3.ext, h3.top, h3.free, h3.obj, h3.apart, h3.given, h3.dis, h3.os, h3.tape, h3.output, h3.grows, h3.block, fun b o ho => ?_, h3.live⟩
       refine h3.raw b o (hR3 b o (x1 b o ho) fun hm => ?_)
       have := (x3 b hm).1
       have ho' : C'.R b = some o := ho
       rw [ho'] at this
       cases this
      exact ⟨_, results_run g3, hR _ _ _ F' γ' w3 h2.2 h4 (one_base g1 g2) k1.base.2.1 fun i g hg => k1.base.2.2 i g (by
       by_cases hi : i < H.length
       ·exact hi
       ·rw [hS.top i (by omega)] at hg; cases hg) hg⟩
     cases e with
     | x i => exact hK.elim
     | n =>
      simp only [endW] at hK
      split at hK
      ·rename_i vc ds h1; exact fin h1 hK
      ·exact hK.elim
     | r =>
      simp only [endW] at hK
      split at hK
      ·rename_i vc ds h1; exact fin h1 hK
      ·exact hK.elim
    ·exact hw.elim
   ·exact hw.elim
  ·exact hw.elim
def eqTs : List D → List D → Prop
 | [], [] => True
 | d :: l, e :: m => eqD d e ∧ eqTs l m
 | _, _ => False
def eqT : D → D → Prop
 | .tup l, .tup m => eqTs l m
 | d, e => eqD d e
theorem eqTs_len : ∀ {l m : List D}, eqTs l m → l.length = m.length ∧ ∀ (i : Nat) d e, l[i]? = some d → m[i]? = some e → eqD d e
 | [], [], _ => ⟨rfl, fun i d e h => by simp at h⟩
 | d :: l, e :: m, h => by
  obtain ⟨k1, k2⟩ := eqTs_len h.2
  refine ⟨by simpa using k1, fun i x y hx hy => ?_⟩
  cases i with
  | zero => cases hx; cases hy; exact h.1
  | succ i => exact k2 i x y (by simpa using hx) (by simpa using hy)
theorem eqT_rel {F γ} {d d' : D} (h : eqT d d') {v} (hr : RelV F γ d v) : RelV F γ d' v := by
 unfold eqT at h
 split at h
 ·obtain ⟨k1, k2⟩ := eqTs_len h
  cases hr with
  | many hm => cases hm
  | one _ h => cases h
  | tup h1 h2 =>
   refine .tup (h1.trans k1) fun i e v he hv => ?_
   have hlt := (List.getElem?_eq_some_iff.1 he).1
   exact eqD_rel (k2 i _ e (List.getElem?_eq_getElem (by omega)) he) (h2 i _ v (List.getElem?_eq_getElem (by omega)) hv)
 ·exact eqD_rel h hr
def endP (res : D) : KV := fun d _ => match d.ren [] with
 | some d' => eqT d' res
 | none => Stuck 0 0 8000
theorem pure_of_W {P : Program} {f : FuncId} {args : List PV} {res : D} (n : Nat) (h : FuncId → FH) (hw : WCall P 0 h n [] 0 f (args.map .p) [] (endP res)) : Pure P f args res := by
 intro F w vs hsub hglob hlen hrel
 refine WCall_sound P 0 h n ⟨P, w, F, [], 0, .top, noR, []⟩ [] rfl rfl YOK.nil f (args.map .p) [] _ hw F noG w vs (slh_base hsub hglob) (by simp [hlen]) (fun i d v hd hv => ?_) _ ?_
 ·simp only [List.getElem?_map, Option.map_eq_some_iff] at hd
  obtain ⟨p, hp, rfl⟩ := hd
  exact hrel i p v hp hv
 ·intro d H' v F' γ' w' hK k1 k2 _ _
  unfold endP at hK
  split at hK
  ·rename_i d' h1
   exact ⟨v, F', rfl, k1.sub, k1.ext, grew_of_base k1, eqT_rel hK (ren_relV (fun i k h => by cases h) h1 k2)⟩
  ·exact Stuck.elim hK
theorem by_P {p q : Prop} (h : p) (e : p = q) : q := e ▸ h
theorem pure_by {P : Program} {f : FuncId} {args : List PV} {res : D} {p : Prop} (n : Nat) (h : FuncId → FH) (e : p = WCall P 0 h n [] 0 f (args.map .p) [] (endP res)) (hp : p) : Pure P f args res :=
 pure_of_W n h (e ▸ hp)
def leTs : List D → List D → Prop
 | [], [] => True
 | .p x :: l, .p y :: m => leP x y ∧ leTs l m
 | d :: l, e :: m => d = e ∧ leTs l m
 | _, _ => False
def leT : D → D → Prop
 | .tup l, .tup m => leTs l m
 | .p x, .p y => leP x y
 | d, e => d = e
theorem leP_many {x y : PV} (h : leP x y) : x.many = y.many := by
 unfold leP at h
 split at h
 ·rfl
 ·rfl
 ·rfl
 ·rw [h]
theorem leD_rel {F γ} {x y : PV} (h : leP x y) {v} (hr : RelV F γ (.p x) v) : RelV F γ (.p y) v := by
 cases hr with
 | one h1 h2 => cases h2 with | p h2 => exact .one ((leP_many h).symm.trans h1) (.p (leP_rel h h2))
 | many h1 h2 => cases h2 with | p h2 => exact .many ((leP_many h).symm.trans h1) (.p (leP_rel h h2))
theorem leTs_len {F γ} : ∀ {l m : List D}, leTs l m → l.length = m.length ∧ ∀ (i : Nat) d e, l[i]? = some d → m[i]? = some e → ∀ v, RelV F γ d v → RelV F γ e v
 | [], [], _ => ⟨rfl, fun i d e h => by simp at h⟩
 | d :: l, e :: m, h => by
  have h2 : (∀ v, RelV F γ d v → RelV F γ e v) ∧ leTs l m := by
   unfold leTs at h
   split at h
   ·rename_i h1 _; cases h1
   ·rename_i h1 h2
    cases h1; cases h2
    exact ⟨fun v hr => leD_rel h.1 hr, h.2⟩
   ·rename_i h1 h2
    cases h1; cases h2
    exact ⟨fun v hr => h.1 ▸ hr, h.2⟩
   ·exact h.elim
  obtain ⟨k1, k2⟩ := leTs_len (F := F) (γ := γ) h2.2
  refine ⟨by simpa using k1, fun i x y hx hy => ?_⟩
  cases i with
  | zero => cases hx; cases hy; exact h2.1
  | succ i => exact k2 i x y (by simpa using hx) (by simpa using hy)
 | [], _ :: _, h => by simp [leTs] at h
 | _ :: _, [], h => by simp [leTs] at h
theorem leT_rel {F γ} {d d' : D} (h : leT d d') {v} (hr : RelV F γ d v) : RelV F γ d' v := by
 unfold leT at h
 split at h
 ·obtain ⟨k1, k2⟩ := leTs_len (F := F) (γ := γ) h
  cases hr with
  | many hm => cases hm
  | one _ h => cases h
  | tup h1 h2 =>
   refine .tup (h1.trans k1) fun i e v he hv => ?_
   have hlt := (List.getElem?_eq_some_iff.1 he).1
   exact k2 i _ e (List.getElem?_eq_getElem (by omega)) he v (h2 i _ v (List.getElem?_eq_getElem (by omega)) hv)
 ·exact leD_rel h hr
 ·rw [← h]; exact hr
def endL (res : D) : KV := fun d _ => match d.ren [] with
 | some d' => leT d' res
 | none => Stuck 0 0 8000
theorem pure_byL {P : Program} {f : FuncId} {args : List PV} {res : D} {p : Prop} (n : Nat) (h : FuncId → FH) (e : p = WCall P 0 h n [] 0 f (args.map .p) [] (endL res)) (hp : p) : Pure P f args res := by
 intro F w vs hsub hglob hlen hrel
 refine WCall_sound P 0 h n ⟨P, w, F, [], 0, .top, noR, []⟩ [] rfl rfl YOK.nil f (args.map .p) [] _ (e ▸ hp) F noG w vs (slh_base hsub hglob) (by simp [hlen]) (fun i d v hd hv => ?_) _ ?_
 ·simp only [List.getElem?_map, Option.map_eq_some_iff] at hd
  obtain ⟨p, hp, rfl⟩ := hd
  exact hrel i p v hp hv
 ·intro d H' v F' γ' w' hK k1 k2 _ _
  unfold endL at hK
  split at hK
  ·rename_i d' h1
   exact ⟨v, F', rfl, k1.sub, k1.ext, grew_of_base k1, leT_rel hK (ren_relV (fun i k h => by cases h) h1 k2)⟩
  ·exact Stuck.elim hK
end Go.Eng
namespace Go.Proofs.YtekhlnihpfkkkaaGreatDoor
open Go.Eng
def roundS (a b : Int) : Int × Bool :=
 if b < 1 then (0, false)
 else if a.tmod b < 0 then
  (if IntKind.wrap .i64 (b - IntKind.wrap .i64 (a.tmod b + b)) ≤ IntKind.wrap .i64 (a.tmod b + b) then IntKind.wrap .i64 (IntKind.wrap .i64 (IntKind.wrap .i64 (a.tdiv b) - 1) + 1) else IntKind.wrap .i64 (IntKind.wrap .i64 (a.tdiv b) - 1), true)
 else (if IntKind.wrap .i64 (b - a.tmod b) ≤ a.tmod b then IntKind.wrap .i64 (IntKind.wrap .i64 (a.tdiv b) + 1) else IntKind.wrap .i64 (a.tdiv b), true)
set_option maxRecDepth 100000 in
theorem round_ok (a b : Int) : Pure Tryz.prog 32 [.v (.int .i64 a), .v (.int .i64 b)] (.tup [vint .i64 (roundS a b).1, vbool (roundS a b).2]) := by
 let K : KV := endP (.tup [vint .i64 (roundS a b).1, vbool (roundS a b).2])
 refine pure_of_W 2 (fun _ => { sp := List.range 100, reg := fun _ => { sh := none } }) (by_P (p :=
  (decide (b < 1) = true → K (.tup [vint .i64 0, vbool false]) []) ∧
  (decide (b < 1) = false → (b = 0 → False) ∧ (b = 0 → False) ∧
   (decide (a.tmod b < 0) = true →
    (decide (IntKind.wrap .i64 (b - IntKind.wrap .i64 (a.tmod b + b)) ≤ IntKind.wrap .i64 (a.tmod b + b)) = true → K (.tup [vint .i64 (IntKind.wrap .i64 (IntKind.wrap .i64 (IntKind.wrap .i64 (a.tdiv b) - 1) + 1)), vbool true]) []) ∧
    (decide (IntKind.wrap .i64 (b - IntKind.wrap .i64 (a.tmod b + b)) ≤ IntKind.wrap .i64 (a.tmod b + b)) = false → K (.tup [vint .i64 (IntKind.wrap .i64 (IntKind.wrap .i64 (a.tdiv b) - 1)), vbool true]) [])) ∧
   (decide (a.tmod b < 0) = false →
    (decide (IntKind.wrap .i64 (b - a.tmod b) ≤ a.tmod b) = true → K (.tup [vint .i64 (IntKind.wrap .i64 (IntKind.wrap .i64 (a.tdiv b) + 1)), vbool true]) []) ∧
    (decide (IntKind.wrap .i64 (b - a.tmod b) ≤ a.tmod b) = false → K (.tup [vint .i64 (IntKind.wrap .i64 (a.tdiv b)), vbool true]) [])))) ?_ (by kernel_rfl))
 simp only [decide_eq_true_eq, decide_eq_false_iff_not]
 have hK : ∀ (q : Int) (o : Bool), q = (roundS a b).1 → o = (roundS a b).2 → K (.tup [vint .i64 q, vbool o]) [] := fun q o h1 h2 => ⟨h1, h2, trivial⟩
 refine ⟨fun h => hK _ _ ?_ ?_, fun h => ⟨by omega, by omega, fun h2 => ⟨fun h3 => hK _ _ ?_ ?_, fun h3 => hK _ _ ?_ ?_⟩, fun h2 => ⟨fun h3 => hK _ _ ?_ ?_, fun h3 => hK _ _ ?_ ?_⟩⟩⟩ <;> simp [roundS, *]
def gcdN : Nat → Int → Int → Int
 | 0, a, _ => a
 | k + 1, a, b => if b = 0 then a else gcdN k b (a.tmod b)
def gcdS (a b : Int) : Int := gcdN (b.toNat + 1) a b
theorem gcdN_more : ∀ {k m : Nat} {a b : Int}, 0 ≤ a → 0 ≤ b → b.toNat < k → b.toNat < m → gcdN k a b = gcdN m a b
 | k + 1, m + 1, a, b, ha, hb, hk, hm => by
  simp only [gcdN]
  split
  ·rfl
  ·rename_i h
   have h1 : 0 ≤ a.tmod b := Int.tmod_nonneg b ha
   have h2 : a.tmod b < b := Int.tmod_lt_of_pos a (by omega)
   exact gcdN_more hb h1 (by omega) (by omega)
set_option maxRecDepth 100000 in
theorem gcdU_ok (a b : Int) (ha : 0 ≤ a) (hb : 0 ≤ b) : Pure Tryz.prog 99 [.v (.int .u64 a), .v (.int .u64 b)] (vint .u64 (gcdS a b)) := by
 let K : KV := endP (vint .u64 (gcdS a b))
 let inv : Int × Int → Prop := fun z => 0 ≤ z.1 ∧ 0 ≤ z.2 ∧ gcdS z.1 z.2 = gcdS a b
 refine pure_of_W 2 (fun _ => { sp := [6], reg := fun _ => { sh := none }, lp := fun _ _ _ => some ⟨Int × Int, fun z => [(0, none, vint .u64 z.1), (1, none, vint .u64 z.2)], [], fun _ => [], [], inv, fun z => z.2.toNat⟩ }) (by_P (p :=
  (∃ x : Int × Int, inv x ∧ a = x.1 ∧ b = x.2 ∧ ([] : Env) = [] ∧ ([] : List O) = []) ∧
  ∀ z : Int × Int, inv z → ((z.2 != 0) = true → (z.2 = 0 → False) ∧ ∃ y : Int × Int, inv y ∧ y.2.toNat < z.2.toNat ∧ z.2 = y.1 ∧ z.1.tmod z.2 = y.2 ∧ ([] : Env) = [] ∧ ([] : List O) = []) ∧
   ((z.2 != 0) = false → K (vint .u64 z.1) [])) ?_ (by kernel_rfl))
 refine ⟨⟨(a, b), ⟨ha, hb, rfl⟩, rfl, rfl, rfl, rfl⟩, fun z hz => ⟨fun h => ?_, fun h => ?_⟩⟩
 ·obtain ⟨h1, h2, h3⟩ := hz
  have h0 : ¬ z.2 = 0 := by simpa using h
  have g1 : 0 ≤ z.1.tmod z.2 := Int.tmod_nonneg _ h1
  have g2 : z.1.tmod z.2 < z.2 := Int.tmod_lt_of_pos _ (by omega)
  refine ⟨h0, (z.2, z.1.tmod z.2), ⟨h2, g1, ?_⟩, by simp only; omega, rfl, rfl, rfl, rfl⟩
  rw [← h3]
  simp only [gcdS]
  rw [gcdN_more (k := (z.1.tmod z.2).toNat + 1) (m := z.2.toNat) h2 g1 (by omega) (by omega)]
  rw [show gcdN (z.2.toNat + 1) z.1 z.2 = _ from by rw [gcdN, if_neg h0]]
 ·obtain ⟨h1, h2, h3⟩ := hz
  have h0 : z.2 = 0 := by simpa using h
  show z.1 = gcdS a b
  rw [← h3, gcdS, h0]
  rfl
end Go.Proofs.YtekhlnihpfkkkaaGreatDoor
namespace Go.Proofs.YtekhlnihpfkkkaaGreatDoor
open Go.Eng
abbrev Pt := Int × Int × Bool
def ePt (p : Pt) : PV := .agg [eI p.1, eI p.2.1, eB p.2.2]
def pt0 : Pt := (0, 0, false)
def eC (c : List Pt) : PV := eL ePt 3 pt0 c
def eO (o : List (List Pt)) : PV := eL eC 1 [] o
def rowO (f : List Pt → List Pt) (o : List (List Pt)) (k : Nat) : O := .arr 51 1 o.length fun j => if j < k then .p (eC (f (o.getD j []))) else .p (.v (.slice none 0 0))
def ptO (g : Pt → Pt) (c : List Pt) (i : Nat) : O := .arr 53 3 c.length fun j => if j < i then .p (ePt (g (c.getD j pt0))) else .p (ePt pt0)
def rch (b : Nat) : Nat → RH := fun r => bif Nat.beq r 13 then { frz := [25], fin := [5], sh := none } else (bif Nat.beq r 14 then { frz := [5], sh := none } else (bif Nat.beq r 10 then { hs := [(3, .own (b + 1))], sh := none } else { sh := none }))
def lch (b : Nat) (o : List (List Pt)) (g : Pt → Pt) : Nat → Env → List O → Option LH := fun r E H =>
 bif Nat.beq r 4 then some (mkLH E H [0, 1, 5, 14, 15] [b] (fun z : Nat × Int => [(16, none, vint .i64 z.1), (6, none, vint .i64 z.2)]) (fun z => [(b, rowO (·.map g) o z.1)]) (fun z => z.1 ≤ o.length) (fun z => o.length - z.1))
 else bif Nat.beq r 8 then (match E.get 16 with
   | some (_, .p (.v (.int _ k))) => some (mkLH E H [0, 1, 5, 14, 15, 16, 7, 25, 27, 28] [b + 1] (fun z : Nat × Int => [(29, none, vint .i64 z.1), (6, none, vint .i64 z.2)]) (fun z => [(b + 1, ptO g (o.getD k.toNat []) z.1)]) (fun z => z.1 ≤ (o.getD k.toNat []).length) (fun z => (o.getD k.toNat []).length - z.1))
   | _ => none) else none
def hch (b : Nat) (o : List (List Pt)) (g : Pt → Pt) : FuncId → FH := fun f => bif Nat.beq f 30 then { sp := [17, 30], reg := rch b, lp := lch b o g } else { reg := fun _ => { sh := none } }
def scF (n : Int) (p : Pt) : Pt := (IntKind.wrap .i64 (p.1 * n), IntKind.wrap .i64 (p.2.1 * n), p.2.2)
def shF (x y : Int) (p : Pt) : Pt := (IntKind.wrap .i64 (p.1 + x), IntKind.wrap .i64 (p.2.1 + y), p.2.2)
theorem getD_map_lt {α β : Type} {f : α → β} {l : List α} {j : Nat} {d : β} {e : α} (h : j < l.length) : (l.map f).getD j d = f (l.getD j e) := by
 simp [List.getD, h]
theorem getD_map_ge {α β : Type} {f : α → β} {l : List α} {j : Nat} {d : β} (h : ¬ j < l.length) : (l.map f).getD j d = d := by
 simp [List.getD, h]
theorem endP_lst {sz n m : Nat} {f g : Nat → PV} {H : List O} (hn : n = m) (h : ∀ j, j < n → f j = g j) : endP (.p (.lst sz m g)) (.p (.lst sz n f)) H := by
 subst hn
 simp only [endP, D.ren, eqT, eqD, if_true]
 exact ⟨trivial, h⟩
set_option maxRecDepth 100000 in
theorem scale_ok (o : List (List Pt)) (n : Int) (ho : o.length ≤ 2 ^ 40) (hc : ∀ k, (o.getD k []).length ≤ 2 ^ 40) : Pure Tryz.prog 72 [eO o, eI n] (.p (eO (o.map fun c => c.map (scF n)))) := by
 let K : KV := endP (.p (eO (o.map fun c => c.map (scF n))))
 refine pure_by 12 (hch 1 o (scF n)) (p :=
  let a0_14 : Nat := (↑o.length : Int).toNat; let a0_13 : PV := PV.v (Value.int IntKind.i64 (0 : Int)); let a0_12 : List O := [O.box (D.p (PV.v (Value.int IntKind.i64 n)))]; let a0_11 : D := D.p (PV.v (Value.slice none 0 0)); let a0_10 : List (Nat × Nat) := numbered [0, 1] 0; let a0_9 : Nat × Option Bool × D := (5, none, D.own 1); let a0_8 : Nat × Option Bool × D := (25, none, D.own 2); let a0_7 : Option Bool × D := (none, D.p (PV.lst 1 o.length fun (i : Nat) => eC (o.getD i []))); let a0_6 : Nat × Option Bool × D := (15, none, D.p (PV.v (Value.int IntKind.i64 (↑o.length : Int)))); let a0_5 : D := D.p (PV.agg [a0_13, a0_13, PV.v (Value.bool false)]); let a0_4 : List (Nat × Nat) := numbered [0, 1, 2] 0; let a0_3 : Nat × Option Bool × D := (0, a0_7); let a0_2 : Nat × Option Bool × D := (1, none, D.fn 97 [] [D.ref 0 []]); let a0_1 : Nat × Option Bool × D := (14, a0_7); let a0_0 : List (Nat × Option Bool × D) := [a0_3, a0_2, a0_9, a0_1, a0_6]; (0 : Int) ≤ (↑o.length : Int) ∧ (↑o.length : Int) ≤ (↑o.length : Int) ∧ (↑Tryz.prog.types[51].bytes : Int) * (↑o.length : Int) ≤ (140737488355328 : Int) ∧ (↑o.length : Int) ≤ (9223372036854775807 : Int) ∧ (∃ (x : Nat × Int), x.fst ≤ o.length ∧ (∀ (i : Nat), i < a0_14 → D.ren a0_10 a0_11 = some a0_11) ∧ Int.ofNat 0 = (↑x.fst : Int) ∧ Int.ofNat 0 = x.snd ∧ (a0_14 = o.length ∧ ∀ (j : Nat), j < a0_14 → a0_11 = if j < x.fst then D.p (eC (List.map (scF n) (o.getD j []))) else a0_11) ∧ a0_0 = a0_0 ∧ a0_12 = a0_12) ∧ ∀ (z : Nat × Int), let a1_9 : Nat := (↑z.fst : Int).toNat; let a1_8 : List Pt := o.getD a1_9 []; let a1_7 : Nat := a1_8.length; let a1_6 : Option Bool × D := (none, D.p (PV.v (Value.int IntKind.i64 (↑z.fst : Int)))); let a1_5 : Int := (↑a1_7 : Int); let a1_4 : Nat := a1_5.toNat; let a1_3 : List O := [O.box (D.p (PV.v (Value.int IntKind.i64 n))), O.arr 51 1 o.length (upd (fun (j : Nat) => if j < z.fst then D.p (eC (List.map (scF n) (o.getD j []))) else a0_11) a1_9 (D.own 2))]; let a1_2 : List (Nat × Option Bool × D) := [(7, a1_6), a0_8, (27, none, D.p (PV.lst 3 a1_7 fun (i : Nat) => ePt (a1_8.getD i pt0))), (28, none, D.p (PV.v (Value.int IntKind.i64 a1_5)))]; let a1_1 : List (Nat × Option Bool × D) := a0_3 :: a0_2 :: a0_9 :: a0_1 :: a0_6 :: (16, none, vint IntKind.i64 (↑z.fst : Int)) :: a1_2; let a1_0 : List (Nat × Option Bool × D) := a0_3 :: a0_2 :: a0_9 :: a0_1 :: a0_6 :: (16, a1_6) :: a1_2; z.fst ≤ o.length → (decide ((↑z.fst : Int) < (↑o.length : Int)) = true → (0 : Int) ≤ (↑z.fst : Int) ∧ (↑z.fst : Int) < (↑o.length : Int) ∧ (0 : Int) ≤ a1_5 ∧ a1_5 ≤ a1_5 ∧ (↑Tryz.prog.types[53].bytes : Int) * a1_5 ≤ (140737488355328 : Int) ∧ a1_5 ≤ (9223372036854775807 : Int) ∧ (0 : Int) ≤ (↑z.fst : Int) ∧ (↑z.fst : Int) < (↑o.length : Int) ∧ a1_9 < o.length ∧ (∃ (x : Nat × Int), x.fst ≤ a1_7 ∧ (∀ (i : Nat), let a3_0 : D := upd (fun (j : Nat) => if j < z.fst then D.p (eC (List.map (scF n) (o.getD j []))) else a0_11) a1_9 (D.own 2) i; i < o.length → D.ren a0_4 a3_0 = some a3_0) ∧ (∀ (i : Nat), i < a1_4 → D.ren a0_4 a0_5 = some a0_5) ∧ Int.ofNat 0 = (↑x.fst : Int) ∧ z.snd = x.snd ∧ (a1_4 = a1_7 ∧ ∀ (j : Nat), j < a1_4 → a0_5 = if j < x.fst then D.p (ePt (scF n (a1_8.getD j pt0))) else D.p (ePt pt0)) ∧ a1_0 = a1_1 ∧ a1_3 = a1_3) ∧ ∀ (z_1 : Nat × Int), let a2_4 : Nat := (↑z_1.fst : Int).toNat; let a2_3 : Pt := a1_8.getD a2_4 pt0; let a2_2 : Int × Bool := a2_3.snd; let a2_1 : PV := PV.lst 3 a1_7 fun (j : Nat) => (if j < z_1.fst then D.p (ePt (scF n (a1_8.getD j pt0))) else D.p (ePt pt0)).unP; let a2_0 : D := D.p (PV.agg [PV.v (Value.int IntKind.i64 (IntKind.i64.wrap (a2_3.fst * n))), PV.v (Value.int IntKind.i64 (IntKind.i64.wrap (a2_2.fst * n))), PV.v (Value.bool a2_2.snd)]); z_1.fst ≤ a1_7 → (decide ((↑z_1.fst : Int) < a1_5) = true → (0 : Int) ≤ (↑z_1.fst : Int) ∧ (↑z_1.fst : Int) < a1_5 ∧ (0 : Int) ≤ (↑z.fst : Int) ∧ (↑z.fst : Int) < (↑o.length : Int) ∧ Decidable.rec (fun (h : ¬a1_9 = a1_9) => if a1_9 < z.fst then D.p (eC (List.map (scF n) a1_8)) else a0_11) (fun (h : a1_9 = a1_9) => D.own 2) (instDecidableEqNat a1_9 a1_9) = D.own 2 ∧ a1_9 < o.length ∧ D.own 2 = D.own 2 ∧ (0 : Int) ≤ (↑z_1.fst : Int) ∧ (↑z_1.fst : Int) < a1_5 ∧ a2_4 < a1_7 ∧ ∃ (y : Nat × Int), y.fst ≤ a1_7 ∧ a1_7 - y.fst < a1_7 - z_1.fst ∧ (∀ (i : Nat), let a4_0 : D := upd (fun (j : Nat) => if j < z.fst then D.p (eC (List.map (scF n) (o.getD j []))) else a0_11) a1_9 (D.own 2) i; i < o.length → D.ren a0_4 a4_0 = some a4_0) ∧ (∀ (i : Nat), let a4_0 : D := upd (fun (j : Nat) => if j < z_1.fst then D.p (ePt (scF n (a1_8.getD j pt0))) else D.p (ePt pt0)) a2_4 a2_0 i; i < a1_7 → D.ren a0_4 a4_0 = some a4_0) ∧ IntKind.i64.wrap ((↑z_1.fst : Int) + (1 : Int)) = (↑y.fst : Int) ∧ IntKind.i64.wrap (z_1.snd + (1 : Int)) = y.snd ∧ (a1_7 = a1_7 ∧ ∀ (j : Nat), j < a1_7 → upd (fun (j : Nat) => if j < z_1.fst then D.p (ePt (scF n (a1_8.getD j pt0))) else D.p (ePt pt0)) a2_4 a2_0 j = if j < y.fst then D.p (ePt (scF n (a1_8.getD j pt0))) else D.p (ePt pt0)) ∧ a1_0 = a1_1 ∧ a1_3 = a1_3) ∧ (decide ((↑z_1.fst : Int) < a1_5) = false → (∀ (j : Nat), let a3_0 : D := if j < z_1.fst then D.p (ePt (scF n (a1_8.getD j pt0))) else D.p (ePt pt0); j < a1_7 → a3_0 = D.p a3_0.unP) ∧ ∃ (y : Nat × Int), y.fst ≤ o.length ∧ o.length - y.fst < o.length - z.fst ∧ (∀ (i : Nat), let a4_1 : D := upd (fun (j : Nat) => if j < z.fst then D.p (eC (List.map (scF n) (o.getD j []))) else a0_11) a1_9 (D.own 2) i; let a4_0 : D := (D.frz 2 a2_1 a4_1).getD a4_1; i < o.length → D.ren a0_10 a4_0 = some a4_0) ∧ IntKind.i64.wrap ((↑z.fst : Int) + (1 : Int)) = (↑y.fst : Int) ∧ z_1.snd = y.snd ∧ (o.length = o.length ∧ ∀ (j : Nat), let a4_0 : D := upd (fun (j : Nat) => if j < z.fst then D.p (eC (List.map (scF n) (o.getD j []))) else a0_11) a1_9 (D.own 2) j; j < o.length → (D.frz 2 a2_1 a4_0).getD a4_0 = if j < y.fst then D.p (eC (List.map (scF n) (o.getD j []))) else a0_11) ∧ a0_0 = a0_0 ∧ a0_12 = a0_12)) ∧ (decide ((↑z.fst : Int) < (↑o.length : Int)) = false → (∀ (j : Nat), let a2_0 : D := if j < z.fst then D.p (eC (List.map (scF n) (o.getD j []))) else a0_11; j < o.length → a2_0 = D.p a2_0.unP) ∧ K (D.p (PV.lst 1 o.length fun (j : Nat) => (if j < z.fst then D.p (eC (List.map (scF n) (o.getD j []))) else a0_11).unP)) [O.box (D.p (PV.v (Value.int IntKind.i64 n))), O.dead])) (by kernel_rfl) ?_
 have e1 : (Tryz.prog.types[51]).bytes = 24 := by kernel_rfl
 have e2 : (Tryz.prog.types[53]).bytes = 24 := by kernel_rfl
 have hw : ∀ k : Nat, k < 2 ^ 40 → IntKind.wrap .i64 ((k : Int) + 1) = ((k + 1 : Nat) : Int) := fun k hk => wr64 (by omega) (by omega) (by omega)
 simp only [e1, e2, Int.toNat_natCast, decide_eq_true_eq, decide_eq_false_iff_not, and_true, true_and]
 refine ⟨by omega, by omega, by omega, by omega, ⟨(0, 0), by simp, fun _ _ => rfl, rfl, rfl, fun j _ => by simp⟩, fun z hz => ⟨fun h1 => ?_, fun h1 => ?_⟩⟩
 ·have hk := hc z.1
  refine ⟨by omega, h1, by omega, by omega, by omega, by omega, by omega, h1, by omega, ⟨(0, z.2), by simp, fun i _ => ?_, fun _ _ => rfl, rfl, rfl, fun j _ => by simp; rfl⟩, fun y hy => ⟨fun h2 => ?_, fun h2 => ?_⟩⟩
  ·simp only [upd]; split <;> first | rfl | (split <;> rfl)
  ·refine ⟨by omega, h2, by omega, h1, ?_, by omega, by omega, h2, by omega, (y.1 + 1, IntKind.wrap .i64 (y.2 + 1)), by simp only; omega, by simp only; omega, fun i _ => ?_, fun i _ => ?_, hw _ (by omega), rfl, fun j _ => ?_⟩
   ·exact if_pos (c := z.1 = z.1) rfl
   ·simp only [upd]; split <;> first | rfl | (split <;> rfl)
   ·simp only [upd]; split <;> first | rfl | (split <;> rfl)
   ·simp only [upd]
    by_cases h : j = y.1
    ·subst h; simp; rfl
    ·simp only [if_neg h, show j < y.1 + 1 ↔ j < y.1 from by omega]
  ·have hy2 : y.1 = (o.getD z.1 []).length := by omega
   refine ⟨fun j _ => by split <;> rfl, (z.1 + 1, y.2), by simp only; omega, by simp only; omega, ?_, hw _ (by omega), rfl, ?_⟩
   ·intro i _
    simp only [upd]
    by_cases h : i = z.1
    ·rw [if_pos h]; rfl
    ·rw [if_neg h]; split <;> rfl
   ·intro i _
    simp only [upd]
    by_cases h : i = z.1
    ·subst h
     simp only [if_true, show z.1 < z.1 + 1 from by omega]
     show D.p (PV.lst 3 _ _) = D.p (PV.lst 3 _ _)
     rw [hy2, List.length_map]
     congr 2
     funext j
     by_cases hj : j < (o.getD z.1 []).length
     ·rw [if_pos hj]
      rw [getD_map_lt hj]; rfl
     ·rw [if_neg hj]
      rw [getD_map_ge hj]; rfl
    ·simp only [if_neg h, show i < z.1 + 1 ↔ i < z.1 from by omega]
     split <;> rfl
 ·refine ⟨fun j _ => by split <;> rfl, ?_⟩
  have hz2 : z.1 = o.length := by omega
  refine endP_lst (by simp) fun j hj => ?_
  rw [if_pos (by omega), getD_map_lt hj]
  rfl
set_option maxRecDepth 100000 in
theorem shift_ok (o : List (List Pt)) (x y : Int) (ho : o.length ≤ 2 ^ 40) (hc : ∀ k, (o.getD k []).length ≤ 2 ^ 40) : Pure Tryz.prog 50 [eO o, eI x, eI y] (.p (eO (o.map fun c => c.map (shF x y)))) := by
 let K : KV := endP (.p (eO (o.map fun c => c.map (shF x y))))
 refine pure_by 12 (hch 2 o (shF x y)) (p :=
  let a0_14 : PV := PV.v (Value.int IntKind.i64 (0 : Int)); let a0_13 : Nat := (↑o.length : Int).toNat; let a0_12 : D := D.p (PV.v (Value.slice none 0 0)); let a0_11 : List O := [O.box (D.p (PV.v (Value.int IntKind.i64 x))), O.box (D.p (PV.v (Value.int IntKind.i64 y)))]; let a0_10 : Nat × Option Bool × D := (25, none, D.own 3); let a0_9 : Nat × Option Bool × D := (5, none, D.own 2); let a0_8 : Option Bool × D := (none, D.p (PV.lst 1 o.length fun (i : Nat) => eC (o.getD i []))); let a0_7 : Nat × Option Bool × D := (15, none, D.p (PV.v (Value.int IntKind.i64 (↑o.length : Int)))); let a0_6 : D := D.p (PV.agg [a0_14, a0_14, PV.v (Value.bool false)]); let a0_5 : List (Nat × Nat) := numbered [0, 1, 2] 0; let a0_4 : List (Nat × Nat) := numbered [0, 1, 2, 3] 0; let a0_3 : Nat × Option Bool × D := (14, a0_8); let a0_2 : Nat × Option Bool × D := (0, a0_8); let a0_1 : Nat × Option Bool × D := (1, none, D.fn 70 [] [D.ref 0 [], D.ref 1 []]); let a0_0 : List (Nat × Option Bool × D) := [a0_2, a0_1, a0_9, a0_3, a0_7]; (0 : Int) ≤ (↑o.length : Int) ∧ (↑o.length : Int) ≤ (↑o.length : Int) ∧ (↑Tryz.prog.types[51].bytes : Int) * (↑o.length : Int) ≤ (140737488355328 : Int) ∧ (↑o.length : Int) ≤ (9223372036854775807 : Int) ∧ (∃ (x_1 : Nat × Int), x_1.fst ≤ o.length ∧ (∀ (i : Nat), i < a0_13 → D.ren a0_5 a0_12 = some a0_12) ∧ Int.ofNat 0 = (↑x_1.fst : Int) ∧ Int.ofNat 0 = x_1.snd ∧ (a0_13 = o.length ∧ ∀ (j : Nat), j < a0_13 → a0_12 = if j < x_1.fst then D.p (eC (List.map (shF x y) (o.getD j []))) else a0_12) ∧ a0_0 = a0_0 ∧ a0_11 = a0_11) ∧ ∀ (z : Nat × Int), let a1_9 : Nat := (↑z.fst : Int).toNat; let a1_8 : List Pt := o.getD a1_9 []; let a1_7 : Nat := a1_8.length; let a1_6 : Option Bool × D := (none, D.p (PV.v (Value.int IntKind.i64 (↑z.fst : Int)))); let a1_5 : Int := (↑a1_7 : Int); let a1_4 : Nat := a1_5.toNat; let a1_3 : List O := [O.box (D.p (PV.v (Value.int IntKind.i64 x))), O.box (D.p (PV.v (Value.int IntKind.i64 y))), O.arr 51 1 o.length (upd (fun (j : Nat) => if j < z.fst then D.p (eC (List.map (shF x y) (o.getD j []))) else a0_12) a1_9 (D.own 3))]; let a1_2 : List (Nat × Option Bool × D) := [(7, a1_6), a0_10, (27, none, D.p (PV.lst 3 a1_7 fun (i : Nat) => ePt (a1_8.getD i pt0))), (28, none, D.p (PV.v (Value.int IntKind.i64 a1_5)))]; let a1_1 : List (Nat × Option Bool × D) := a0_2 :: a0_1 :: a0_9 :: a0_3 :: a0_7 :: (16, none, vint IntKind.i64 (↑z.fst : Int)) :: a1_2; let a1_0 : List (Nat × Option Bool × D) := a0_2 :: a0_1 :: a0_9 :: a0_3 :: a0_7 :: (16, a1_6) :: a1_2; z.fst ≤ o.length → (decide ((↑z.fst : Int) < (↑o.length : Int)) = true → (0 : Int) ≤ (↑z.fst : Int) ∧ (↑z.fst : Int) < (↑o.length : Int) ∧ (0 : Int) ≤ a1_5 ∧ a1_5 ≤ a1_5 ∧ (↑Tryz.prog.types[53].bytes : Int) * a1_5 ≤ (140737488355328 : Int) ∧ a1_5 ≤ (9223372036854775807 : Int) ∧ (0 : Int) ≤ (↑z.fst : Int) ∧ (↑z.fst : Int) < (↑o.length : Int) ∧ a1_9 < o.length ∧ (∃ (x_1 : Nat × Int), x_1.fst ≤ a1_7 ∧ (∀ (i : Nat), let a3_0 : D := upd (fun (j : Nat) => if j < z.fst then D.p (eC (List.map (shF x y) (o.getD j []))) else a0_12) a1_9 (D.own 3) i; i < o.length → D.ren a0_4 a3_0 = some a3_0) ∧ (∀ (i : Nat), i < a1_4 → D.ren a0_4 a0_6 = some a0_6) ∧ Int.ofNat 0 = (↑x_1.fst : Int) ∧ z.snd = x_1.snd ∧ (a1_4 = a1_7 ∧ ∀ (j : Nat), j < a1_4 → a0_6 = if j < x_1.fst then D.p (ePt (shF x y (a1_8.getD j pt0))) else D.p (ePt pt0)) ∧ a1_0 = a1_1 ∧ a1_3 = a1_3) ∧ ∀ (z_1 : Nat × Int), let a2_4 : Nat := (↑z_1.fst : Int).toNat; let a2_3 : Pt := a1_8.getD a2_4 pt0; let a2_2 : Int × Bool := a2_3.snd; let a2_1 : PV := PV.lst 3 a1_7 fun (j : Nat) => (if j < z_1.fst then D.p (ePt (shF x y (a1_8.getD j pt0))) else D.p (ePt pt0)).unP; let a2_0 : D := D.p (PV.agg [PV.v (Value.int IntKind.i64 (IntKind.i64.wrap (a2_3.fst + x))), PV.v (Value.int IntKind.i64 (IntKind.i64.wrap (a2_2.fst + y))), PV.v (Value.bool a2_2.snd)]); z_1.fst ≤ a1_7 → (decide ((↑z_1.fst : Int) < a1_5) = true → (0 : Int) ≤ (↑z_1.fst : Int) ∧ (↑z_1.fst : Int) < a1_5 ∧ (0 : Int) ≤ (↑z.fst : Int) ∧ (↑z.fst : Int) < (↑o.length : Int) ∧ Decidable.rec (fun (h : ¬a1_9 = a1_9) => if a1_9 < z.fst then D.p (eC (List.map (shF x y) a1_8)) else a0_12) (fun (h : a1_9 = a1_9) => D.own 3) (instDecidableEqNat a1_9 a1_9) = D.own 3 ∧ a1_9 < o.length ∧ D.own 3 = D.own 3 ∧ (0 : Int) ≤ (↑z_1.fst : Int) ∧ (↑z_1.fst : Int) < a1_5 ∧ a2_4 < a1_7 ∧ ∃ (y_1 : Nat × Int), y_1.fst ≤ a1_7 ∧ a1_7 - y_1.fst < a1_7 - z_1.fst ∧ (∀ (i : Nat), let a4_0 : D := upd (fun (j : Nat) => if j < z.fst then D.p (eC (List.map (shF x y) (o.getD j []))) else a0_12) a1_9 (D.own 3) i; i < o.length → D.ren a0_4 a4_0 = some a4_0) ∧ (∀ (i : Nat), let a4_0 : D := upd (fun (j : Nat) => if j < z_1.fst then D.p (ePt (shF x y (a1_8.getD j pt0))) else D.p (ePt pt0)) a2_4 a2_0 i; i < a1_7 → D.ren a0_4 a4_0 = some a4_0) ∧ IntKind.i64.wrap ((↑z_1.fst : Int) + (1 : Int)) = (↑y_1.fst : Int) ∧ IntKind.i64.wrap (z_1.snd + (1 : Int)) = y_1.snd ∧ (a1_7 = a1_7 ∧ ∀ (j : Nat), j < a1_7 → upd (fun (j : Nat) => if j < z_1.fst then D.p (ePt (shF x y (a1_8.getD j pt0))) else D.p (ePt pt0)) a2_4 a2_0 j = if j < y_1.fst then D.p (ePt (shF x y (a1_8.getD j pt0))) else D.p (ePt pt0)) ∧ a1_0 = a1_1 ∧ a1_3 = a1_3) ∧ (decide ((↑z_1.fst : Int) < a1_5) = false → (∀ (j : Nat), let a3_0 : D := if j < z_1.fst then D.p (ePt (shF x y (a1_8.getD j pt0))) else D.p (ePt pt0); j < a1_7 → a3_0 = D.p a3_0.unP) ∧ ∃ (y_1 : Nat × Int), y_1.fst ≤ o.length ∧ o.length - y_1.fst < o.length - z.fst ∧ (∀ (i : Nat), let a4_1 : D := upd (fun (j : Nat) => if j < z.fst then D.p (eC (List.map (shF x y) (o.getD j []))) else a0_12) a1_9 (D.own 3) i; let a4_0 : D := (D.frz 3 a2_1 a4_1).getD a4_1; i < o.length → D.ren a0_5 a4_0 = some a4_0) ∧ IntKind.i64.wrap ((↑z.fst : Int) + (1 : Int)) = (↑y_1.fst : Int) ∧ z_1.snd = y_1.snd ∧ (o.length = o.length ∧ ∀ (j : Nat), let a4_0 : D := upd (fun (j : Nat) => if j < z.fst then D.p (eC (List.map (shF x y) (o.getD j []))) else a0_12) a1_9 (D.own 3) j; j < o.length → (D.frz 3 a2_1 a4_0).getD a4_0 = if j < y_1.fst then D.p (eC (List.map (shF x y) (o.getD j []))) else a0_12) ∧ a0_0 = a0_0 ∧ a0_11 = a0_11)) ∧ (decide ((↑z.fst : Int) < (↑o.length : Int)) = false → (∀ (j : Nat), let a2_0 : D := if j < z.fst then D.p (eC (List.map (shF x y) (o.getD j []))) else a0_12; j < o.length → a2_0 = D.p a2_0.unP) ∧ K (D.p (PV.lst 1 o.length fun (j : Nat) => (if j < z.fst then D.p (eC (List.map (shF x y) (o.getD j []))) else a0_12).unP)) [O.box (D.p (PV.v (Value.int IntKind.i64 x))), O.box (D.p (PV.v (Value.int IntKind.i64 y))), O.dead])) (by kernel_rfl) ?_
 have e1 : (Tryz.prog.types[51]).bytes = 24 := by kernel_rfl
 have e2 : (Tryz.prog.types[53]).bytes = 24 := by kernel_rfl
 have hw : ∀ k : Nat, k < 2 ^ 40 → IntKind.wrap .i64 ((k : Int) + 1) = ((k + 1 : Nat) : Int) := fun k hk => wr64 (by omega) (by omega) (by omega)
 simp only [e1, e2, Int.toNat_natCast, decide_eq_true_eq, decide_eq_false_iff_not, and_true, true_and]
 refine ⟨by omega, by omega, by omega, by omega, ⟨(0, 0), by simp, fun _ _ => rfl, rfl, rfl, fun j _ => by simp⟩, fun z hz => ⟨fun h1 => ?_, fun h1 => ?_⟩⟩
 ·have hk := hc z.1
  refine ⟨by omega, h1, by omega, by omega, by omega, by omega, by omega, h1, by omega, ⟨(0, z.2), by simp, fun i _ => ?_, fun _ _ => rfl, rfl, rfl, fun j _ => by simp; rfl⟩, fun v hy => ⟨fun h2 => ?_, fun h2 => ?_⟩⟩
  ·simp only [upd]; split <;> first | rfl | (split <;> rfl)
  ·refine ⟨by omega, h2, by omega, h1, ?_, by omega, by omega, h2, by omega, (v.1 + 1, IntKind.wrap .i64 (v.2 + 1)), by simp only; omega, by simp only; omega, fun i _ => ?_, fun i _ => ?_, hw _ (by omega), rfl, fun j _ => ?_⟩
   ·exact if_pos (c := z.1 = z.1) rfl
   ·simp only [upd]; split <;> first | rfl | (split <;> rfl)
   ·simp only [upd]; split <;> first | rfl | (split <;> rfl)
   ·simp only [upd]
    by_cases h : j = v.1
    ·subst h; simp; rfl
    ·simp only [if_neg h, show j < v.1 + 1 ↔ j < v.1 from by omega]
  ·have hy2 : v.1 = (o.getD z.1 []).length := by omega
   refine ⟨fun j _ => by split <;> rfl, (z.1 + 1, v.2), by simp only; omega, by simp only; omega, ?_, hw _ (by omega), rfl, ?_⟩
   ·intro i _
    simp only [upd]
    by_cases h : i = z.1
    ·rw [if_pos h]; rfl
    ·rw [if_neg h]; split <;> rfl
   ·intro i _
    simp only [upd]
    by_cases h : i = z.1
    ·subst h
     simp only [if_true, show z.1 < z.1 + 1 from by omega]
     show D.p (PV.lst 3 _ _) = D.p (PV.lst 3 _ _)
     rw [hy2, List.length_map]
     congr 2
     funext j
     by_cases hj : j < (o.getD z.1 []).length
     ·rw [if_pos hj]
      rw [getD_map_lt hj]; rfl
     ·rw [if_neg hj]
      rw [getD_map_ge hj]; rfl
    ·simp only [if_neg h, show i < z.1 + 1 ↔ i < z.1 from by omega]
     split <;> rfl
 ·refine ⟨fun j _ => by split <;> rfl, ?_⟩
  have hz2 : z.1 = o.length := by omega
  refine endP_lst (by simp) fun j hj => ?_
  rw [if_pos (by omega), getD_map_lt hj]
  rfl
end Go.Proofs.YtekhlnihpfkkkaaGreatDoor
namespace Go.Proofs.YtekhlnihpfkkkaaGreatDoor
open Go.Eng
def gcdI (a b : Int) : Int := gcdN (b.natAbs + 1) a b
def lowG (n d : Int) : Int := if gcdI n d < 0 then IntKind.wrap .i64 (0 - gcdI n d) else gcdI n d
def lowS (r : Int × Int) : (Int × Int) × Bool :=
 if r.2 < 1 then ((0, 0), false) else ((IntKind.wrap .i64 (r.1.tdiv (lowG r.1 r.2)), IntKind.wrap .i64 (r.2.tdiv (lowG r.1 r.2))), true)
def eR (r : Int × Int) : PV := .agg [eI r.1, eI r.2]
def pcA : FuncId → List PV → Option D := fun f ar => bif Nat.beq f 114 then (match ar with | [.v (.int _ a), .v (.int _ b)] => some (vint .i64 (gcdI a b)) | _ => none) else none
def hLow : FuncId → FH := fun _ => { sp := [7, 15], reg := fun _ => { sh := none }, pc := pcA }
theorem gcdN_moreI : ∀ {k m : Nat} {a b : Int}, b.natAbs < k → b.natAbs < m → gcdN k a b = gcdN m a b
 | k + 1, m + 1, a, b, hk, hm => by
  simp only [gcdN]
  split
  ·rfl
  ·rename_i h
   have h1 : (a.tmod b).natAbs < b.natAbs := by
    rw [Int.natAbs_tmod]
    exact Nat.mod_lt _ (by omega)
   exact gcdN_moreI (by omega) (by omega)
theorem gcdI_step {a b : Int} (h : ¬ b = 0) : gcdI a b = gcdI b (a.tmod b) := by
 have h1 : (a.tmod b).natAbs < b.natAbs := by
  rw [Int.natAbs_tmod]
  exact Nat.mod_lt _ (by omega)
 simp only [gcdI]
 rw [show gcdN (b.natAbs + 1) a b = gcdN b.natAbs b (a.tmod b) from by rw [gcdN, if_neg h]]
 exact gcdN_moreI (by omega) (by omega)
theorem gcdN_ne : ∀ {k : Nat} {a b : Int}, b.natAbs < k → ¬ (a = 0 ∧ b = 0) → gcdN k a b ≠ 0
 | k + 1, a, b, hk, h => by
  simp only [gcdN]
  split
  ·rename_i hb; exact fun ha => h ⟨ha, hb⟩
  ·rename_i hb
   have h1 : (a.tmod b).natAbs < b.natAbs := by
    rw [Int.natAbs_tmod]
    exact Nat.mod_lt _ (by omega)
   exact gcdN_ne (by omega) (fun e => hb e.1)
theorem gcdI_ne {a b : Int} (h : b ≠ 0) : gcdI a b ≠ 0 := gcdN_ne (by omega) (fun e => h e.2)
set_option maxRecDepth 100000 in
theorem gcdI_ok (a b : Int) : Pure Tryz.prog 114 [.v (.int .i64 a), .v (.int .i64 b)] (vint .i64 (gcdI a b)) := by
 let K : KV := endP (vint .i64 (gcdI a b))
 let inv : Int × Int → Prop := fun z => gcdI z.1 z.2 = gcdI a b
 refine pure_of_W 2 (fun _ => { sp := [6], reg := fun _ => { sh := none }, lp := fun _ _ _ => some ⟨Int × Int, fun z => [(0, none, vint .i64 z.1), (1, none, vint .i64 z.2)], [], fun _ => [], [], inv, fun z => z.2.natAbs⟩ }) (by_P (p :=
  (∃ x : Int × Int, inv x ∧ a = x.1 ∧ b = x.2 ∧ ([] : Env) = [] ∧ ([] : List O) = []) ∧
  ∀ z : Int × Int, inv z → ((z.2 != 0) = true → (z.2 = 0 → False) ∧ ∃ y : Int × Int, inv y ∧ y.2.natAbs < z.2.natAbs ∧ z.2 = y.1 ∧ z.1.tmod z.2 = y.2 ∧ ([] : Env) = [] ∧ ([] : List O) = []) ∧
   ((z.2 != 0) = false → K (vint .i64 z.1) [])) ?_ (by kernel_rfl))
 refine ⟨⟨(a, b), rfl, rfl, rfl, rfl, rfl⟩, fun z hz => ⟨fun h => ?_, fun h => ?_⟩⟩
 ·have h0 : ¬ z.2 = 0 := by simpa using h
  refine ⟨h0, (z.2, z.1.tmod z.2), (gcdI_step h0).symm.trans hz, ?_, rfl, rfl, rfl, rfl⟩
  simp only
  rw [Int.natAbs_tmod]
  exact Nat.mod_lt _ (by omega)
 ·have h0 : z.2 = 0 := by simpa using h
  have hz : gcdI z.1 z.2 = gcdI a b := hz
  show z.1 = gcdI a b
  rw [← hz, h0]
  rfl
theorem gcdN_le : ∀ {k : Nat} {a b : Int}, b.natAbs < k → b ≠ 0 → (gcdN k a b).natAbs ≤ b.natAbs
 | k + 1, a, b, hk, h => by
  simp only [gcdN, if_neg h]
  have h1 : (a.tmod b).natAbs < b.natAbs := by
   rw [Int.natAbs_tmod]
   exact Nat.mod_lt _ (by omega)
  by_cases hm : a.tmod b = 0
  ·rw [hm]
   cases k with
   | zero => omega
   | succ k => simp [gcdN]
  ·exact Nat.le_of_lt (Nat.lt_of_le_of_lt (gcdN_le (by omega) hm) h1)
theorem lowG_ne {n d : Int} (h1 : 1 ≤ d) (h2 : d < 2 ^ 63) : lowG n d ≠ 0 := by
 have h3 := gcdI_ne (a := n) (b := d) (by omega)
 have h4 : (gcdI n d).natAbs ≤ d.natAbs := gcdN_le (by omega) (by omega)
 unfold lowG
 split
 ·rw [wr64 (m := 0 - gcdI n d) (by omega) (by omega) rfl]; omega
 ·exact h3
set_option maxRecDepth 100000 in
theorem low_ok (n d : Int) (hd : d < 2 ^ 63) : Pure Tryz.prog 98 [eR (n, d)] (.tup [.p (eR (lowS (n, d)).1), vbool (lowS (n, d)).2]) := by
 let K : KV := endP (.tup [.p (eR (lowS (n, d)).1), vbool (lowS (n, d)).2])
 refine pure_by 6 hLow (p :=
  let a0_7 : PV := PV.v (Value.int IntKind.i64 (0 : Int)); let a0_6 : List D := [D.p (PV.v (Value.bool true))]; let a0_5 : List PV := [PV.v (Value.int IntKind.i64 n), PV.v (Value.int IntKind.i64 d)]; let a0_4 : Int := IntKind.i64.wrap ((0 : Int) - gcdI n d); let a0_3 : O := O.box (D.p (PV.agg a0_5)); let a0_2 : D := D.p (PV.agg [a0_7, a0_7]); let a0_1 : D := D.p (PV.agg [PV.v (Value.int IntKind.i64 (IntKind.i64.wrap (n.tdiv (gcdI n d)))), PV.v (Value.int IntKind.i64 (IntKind.i64.wrap (d.tdiv (gcdI n d))))]); let a0_0 : D := D.p (PV.agg [PV.v (Value.int IntKind.i64 (IntKind.i64.wrap (n.tdiv a0_4))), PV.v (Value.int IntKind.i64 (IntKind.i64.wrap (d.tdiv a0_4)))]); (decide (d < (1 : Int)) = true → K (D.tup [a0_2, D.p (PV.v (Value.bool false))]) [a0_3, O.box a0_2]) ∧ (decide (d < (1 : Int)) = false → Eng.Pure Tryz.prog 114 a0_5 (vint IntKind.i64 (gcdI n d)) ∧ (decide (gcdI n d < (0 : Int)) = true → (a0_4 = (0 : Int) → False) ∧ (a0_4 = (0 : Int) → False) ∧ K (D.tup (a0_0 :: a0_6)) [a0_3, O.box a0_0]) ∧ (decide (gcdI n d < (0 : Int)) = false → (gcdI n d = (0 : Int) → False) ∧ (gcdI n d = (0 : Int) → False) ∧ K (D.tup (a0_1 :: a0_6)) [a0_3, O.box a0_1]))) (by kernel_rfl) ?_
 simp only [decide_eq_true_eq, decide_eq_false_iff_not]
 refine ⟨fun h => ?_, fun h => ⟨gcdI_ok n d, fun h2 => ?_, fun h2 => ?_⟩⟩
 ·refine ⟨?_, ?_, trivial⟩
  ·show D.p _ = D.p _
   simp only [lowS, if_pos h]; rfl
  ·show false = _
   simp only [lowS, if_pos h]
 ·have h3 := lowG_ne (n := n) (d := d) (by omega) hd
  have h4 : lowG n d = IntKind.wrap .i64 (0 - gcdI n d) := by simp only [lowG, if_pos h2]
  rw [← h4]
  refine ⟨h3, h3, ?_, ?_, trivial⟩
  ·show D.p _ = D.p _
   simp only [lowS, if_neg h]; rfl
  ·show true = _
   simp only [lowS, if_neg h]
 ·have h3 := lowG_ne (n := n) (d := d) (by omega) hd
  have h4 : lowG n d = gcdI n d := by simp only [lowG, if_neg h2]
  rw [← h4]
  refine ⟨h3, h3, ?_, ?_, trivial⟩
  ·show D.p _ = D.p _
   simp only [lowS, if_neg h]; rfl
  ·show true = _
   simp only [lowS, if_neg h]
end Go.Proofs.YtekhlnihpfkkkaaGreatDoor
namespace Go.Proofs.YtekhlnihpfkkkaaGreatDoor
open Go.Eng
def eU (a : Int) : PV := .v (.int .u64 a)
def eW (p : Int × Int) : PV := .vec 1 2 (upd (upd (fun _ => eU 0) 0 (eU p.1)) 1 (eU p.2))
def hAll : FuncId → FH := fun _ => { sp := List.range 100, reg := fun _ => { sh := none } }
def signS (a : Int) : Int := if a < 0 then -1 else if 0 < a then 1 else 0
def upper (a b : Int) : Int :=
 let m := bitsOf .and .u64 a 4294967295
 let n := bitsOf .and .u64 b 4294967295
 let t := IntKind.wrap .u64 (IntKind.wrap .u64 (a.fdiv (2 ^ 32) * n) + (IntKind.wrap .u64 (m * n)).fdiv (2 ^ 32))
 IntKind.wrap .u64 (IntKind.wrap .u64 (IntKind.wrap .u64 (a.fdiv (2 ^ 32) * b.fdiv (2 ^ 32)) + t.fdiv (2 ^ 32)) + (IntKind.wrap .u64 (bitsOf .and .u64 t 4294967295 + IntKind.wrap .u64 (m * b.fdiv (2 ^ 32)))).fdiv (2 ^ 32))
def timesS (a b : Int) : Int × Int := (upper a b, IntKind.wrap .u64 (a * b))
def hAll2 : FuncId → FH := fun _ => { sp := List.range 100, reg := fun _ => { sh := none, g := 2 } }
def numS (w : Int × Int) (n : Bool) : Int × Bool :=
 if w.1 != 0 || decide (9223372036854775808 < w.2) || (w.2 == 9223372036854775808 && !n) then (0, false)
 else if n then (IntKind.wrap .i64 (IntKind.wrap .u64 (0 - w.2)), true) else (IntKind.wrap .i64 w.2, true)
def ratioS (n : Bool) (a b : Int × Int) : (Int × Int) × Bool :=
 if !(numS a n).2 || !(numS b false).2 then ((0, 0), false) else (((numS a n).1, (numS b false).1), true)
def pcN : FuncId → List PV → Option D := fun f ar => bif Nat.beq f 115 then (match ar with
 | [.vec _ _ g, .v (.bool n)] => (match g 0, g 1 with
  | .v (.int _ a), .v (.int _ b) => some (.tup [vint .i64 (numS (a, b) n).1, vbool (numS (a, b) n).2])
  | _, _ => none)
 | _ => none) else none
def hRat : FuncId → FH := fun _ => { sp := List.range 100, reg := fun _ => { sh := none, g := 2 }, pc := pcN }
set_option maxRecDepth 100000 in
theorem sign_ok (a : Int) : Pure Tryz.prog 102 [eI a] (vint .i64 (signS a)) := by
 let K : KV := endP (vint .i64 (signS a))
 refine pure_by 6 hAll (p :=
  let a0_2 : D := D.p (PV.v (Value.int IntKind.i64 (Int.ofNat 1))); let a0_1 : D := D.p (PV.v (Value.int IntKind.i64 (Int.ofNat 0))); let a0_0 : D := D.p (PV.v (Value.int IntKind.i64 (Int.negSucc 0))); ((a != a) = true → (((0 : Int) != (0 : Int)) = true → K a0_1 []) ∧ (((0 : Int) != (0 : Int)) = false → K a0_0 [])) ∧ ((a != a) = false → (((0 : Int) != (0 : Int)) = true → K a0_2 []) ∧ (((0 : Int) != (0 : Int)) = false → (decide (a < (0 : Int)) = true → K a0_0 []) ∧ (decide (a < (0 : Int)) = false → (decide ((0 : Int) < a) = true → K a0_2 []) ∧ (decide ((0 : Int) < a) = false → K a0_1 []))))) (by kernel_rfl) ?_
 simp only [decide_eq_true_eq, decide_eq_false_iff_not]
 refine ⟨fun h => absurd h (by simp), fun _ => ⟨fun h => absurd h (by simp), fun _ => ⟨fun h => ?_, fun h => ⟨fun h2 => ?_, fun h2 => ?_⟩⟩⟩⟩
 ·show (-1 : Int) = signS a
  simp only [signS, if_pos h]
 ·show (1 : Int) = signS a
  simp only [signS, if_neg h, if_pos h2]
 ·show (0 : Int) = signS a
  simp only [signS, if_neg h, if_neg h2]
set_option maxRecDepth 100000 in
theorem times_ok (a b : Int) : Pure Tryz.prog 103 [eU a, eU b] (.p (eW (timesS a b))) := by
 let K : KV := endP (.p (eW (timesS a b)))
 refine pure_by 6 hAll (p :=
  let a0_6 : Int := bitsOf BinOp.and IntKind.u64 b (4294967295 : Int); let a0_5 : Int := bitsOf BinOp.and IntKind.u64 a (4294967295 : Int); let a0_4 : Int := (2 : Int) ^ 32; let a0_3 : Int := b.fdiv a0_4; let a0_2 : Int := a.fdiv a0_4; let a0_1 : Int := IntKind.u64.wrap (IntKind.u64.wrap (a0_2 * a0_6) + (IntKind.u64.wrap (a0_5 * a0_6)).fdiv a0_4); let a0_0 : D := D.p (PV.vec 1 2 (upd (upd (fun (x : Nat) => PV.v (Value.int IntKind.u64 (0 : Int))) 0 (PV.v (Value.int IntKind.u64 (IntKind.u64.wrap (IntKind.u64.wrap (IntKind.u64.wrap (a0_2 * a0_3) + a0_1.fdiv a0_4) + (IntKind.u64.wrap (bitsOf BinOp.and IntKind.u64 a0_1 (4294967295 : Int) + IntKind.u64.wrap (a0_5 * a0_3))).fdiv a0_4))))) 1 (PV.v (Value.int IntKind.u64 (IntKind.u64.wrap (a * b)))))); (0 : Int) ≤ (32 : Int) ∧ (0 : Int) ≤ (32 : Int) ∧ (0 : Int) ≤ (32 : Int) ∧ (0 : Int) ≤ (32 : Int) ∧ (0 : Int) ≤ (32 : Int) ∧ 0 < 2 ∧ 1 < 2 ∧ K a0_0 [O.box a0_0]) (by kernel_rfl) ?_
 exact ⟨by omega, by omega, by omega, by omega, by omega, by omega, by omega, rfl⟩
set_option maxRecDepth 100000 in
theorem number_ok (a b : Int) (n : Bool) : Pure Tryz.prog 115 [eW (a, b), eB n] (.tup [vint .i64 (numS (a, b) n).1, vbool (numS (a, b) n).2]) := by
 let K : KV := endP (.tup [vint .i64 (numS (a, b) n).1, vbool (numS (a, b) n).2])
 refine pure_by 6 hAll2 (p :=
  let a0_5 : Int := (↑2 : Int); let a0_4 : List D := [D.p (PV.v (Value.bool true))]; let a0_3 : D := D.tup (D.p (PV.v (Value.int IntKind.i64 (IntKind.i64.wrap b))) :: a0_4); let a0_2 : D := D.tup [D.p (PV.v (Value.int IntKind.i64 (Int.ofNat 0))), D.p (PV.v (Value.bool false))]; let a0_1 : D := D.tup (D.p (PV.v (Value.int IntKind.i64 (IntKind.i64.wrap (IntKind.u64.wrap ((0 : Int) - b))))) :: a0_4); let a0_0 : List O := [O.box (D.p (PV.vec 1 2 (upd (upd (fun (x : Nat) => eU (0 : Int)) 0 (eU a)) 1 (eU b))))]; (0 : Int) ≤ (0 : Int) ∧ (0 : Int) < a0_5 ∧ 0 < 2 ∧ ((!a != (0 : Int)) = true → (0 : Int) ≤ (1 : Int) ∧ (1 : Int) < a0_5 ∧ 1 < 2 ∧ ((!decide ((9223372036854775808 : Int) < b)) = true → (0 : Int) ≤ (1 : Int) ∧ (1 : Int) < a0_5 ∧ 1 < 2 ∧ ((b == (9223372036854775808 : Int)) = true → ((!n) = true → K a0_2 a0_0) ∧ ((!n) = false → (n = true → (0 : Int) ≤ (1 : Int) ∧ (1 : Int) < a0_5 ∧ 1 < 2 ∧ K a0_1 a0_0) ∧ (n = false → (0 : Int) ≤ (1 : Int) ∧ (1 : Int) < a0_5 ∧ 1 < 2 ∧ K a0_3 a0_0))) ∧ ((b == (9223372036854775808 : Int)) = false → (n = true → (0 : Int) ≤ (1 : Int) ∧ (1 : Int) < a0_5 ∧ 1 < 2 ∧ K a0_1 a0_0) ∧ (n = false → (0 : Int) ≤ (1 : Int) ∧ (1 : Int) < a0_5 ∧ 1 < 2 ∧ K a0_3 a0_0))) ∧ ((!decide ((9223372036854775808 : Int) < b)) = false → K a0_2 a0_0)) ∧ ((!a != (0 : Int)) = false → K a0_2 a0_0)) (by kernel_rfl) ?_
 have hK : ∀ (q : Int) (o : Bool) (H : List O), (q, o) = numS (a, b) n → K (.tup [vint .i64 q, vbool o]) H := fun q o H h => ⟨congrArg Prod.fst h, congrArg Prod.snd h, trivial⟩
 refine ⟨by omega, by omega, by omega, fun h1 => ⟨by omega, by omega, by omega, fun h2 => ⟨by omega, by omega, by omega, fun h3 => ⟨fun h4 => hK _ _ _ ?_, fun h4 => ⟨fun h5 => ⟨by omega, by omega, by omega, hK _ _ _ ?_⟩, fun h5 => ⟨by omega, by omega, by omega, hK _ _ _ ?_⟩⟩⟩,
  fun h3 => ⟨fun h5 => ⟨by omega, by omega, by omega, hK _ _ _ ?_⟩, fun h5 => ⟨by omega, by omega, by omega, hK _ _ _ ?_⟩⟩⟩, fun h2 => hK _ _ _ ?_⟩, fun h1 => hK _ _ _ ?_⟩
 all_goals (simp only [numS]; simp_all)
set_option maxRecDepth 100000 in
theorem ratio_ok (n : Bool) (a b c d : Int) : Pure Tryz.prog 101 [eB n, eW (a, b), eW (c, d)] (.tup [.p (eR (ratioS n (a, b) (c, d)).1), vbool (ratioS n (a, b) (c, d)).2]) := by
 let K : KV := endP (.tup [.p (eR (ratioS n (a, b) (c, d)).1), vbool (ratioS n (a, b) (c, d)).2])
 refine pure_by 6 hRat (p :=
  let a0_10 : PV := PV.v (Value.int IntKind.i64 (0 : Int)); let a0_9 : Int := (numS (c, d) false).fst; let a0_8 : Int := (numS (a, b) n).fst; let a0_7 : D := D.p (PV.agg [a0_10, a0_10]); let a0_6 : D := D.p (PV.agg [PV.v (Value.int IntKind.i64 a0_8), PV.v (Value.int IntKind.i64 a0_9)]); let a0_5 : D := D.tup [a0_7, D.p (PV.v (Value.bool false))]; let a0_4 : PV := PV.vec 1 2 (upd (upd (fun (x : Nat) => eU (0 : Int)) 0 (eU c)) 1 (eU d)); let a0_3 : PV := PV.vec 1 2 (upd (upd (fun (x : Nat) => eU (0 : Int)) 0 (eU a)) 1 (eU b)); let a0_2 : O := O.box (D.p a0_4); let a0_1 : O := O.box (D.p a0_3); let a0_0 : List O := [a0_1, a0_2, O.box a0_7]; Eng.Pure Tryz.prog 115 [a0_3, PV.v (Value.bool n)] (D.tup [vint IntKind.i64 a0_8, vbool (numS (a, b) n).snd]) ∧ Eng.Pure Tryz.prog 115 [a0_4, PV.v (Value.bool false)] (D.tup [vint IntKind.i64 a0_9, vbool (numS (c, d) false).snd]) ∧ ((!!(numS (a, b) n).snd) = true → ((!(numS (c, d) false).snd) = true → K a0_5 a0_0) ∧ ((!(numS (c, d) false).snd) = false → K (D.tup [a0_6, D.p (PV.v (Value.bool true))]) [a0_1, a0_2, O.box a0_6])) ∧ ((!!(numS (a, b) n).snd) = false → K a0_5 a0_0)) (by kernel_rfl) ?_
 have hK : ∀ (q : Int × Int) (o : Bool) (H : List O), (q, o) = ratioS n (a, b) (c, d) → K (.tup [.p (eR q), vbool o]) H := fun q o H h => ⟨congrArg D.p (congrArg eR (congrArg Prod.fst h)), congrArg Prod.snd h, trivial⟩
 refine ⟨number_ok a b n, number_ok c d false, fun h1 => ⟨fun h2 => hK (0, 0) false _ ?_, fun h2 => hK (_, _) true _ ?_⟩, fun h1 => hK (0, 0) false _ ?_⟩
 all_goals (simp only [ratioS]; simp_all)
end Go.Proofs.YtekhlnihpfkkkaaGreatDoor
namespace Go.Proofs.YtekhlnihpfkkkaaGreatDoor
open Go.Eng
def g2 : FuncId → FH := fun _ => { sp := List.range 100, reg := fun _ => { g := 2, sh := none } }
theorem endB {a b : Bool} (h : b = a) : endP (vbool a) (vbool b) [] := h
theorem endI {k : IntKind} {a b : Int} (h : b = a) : endP (vint k a) (vint k b) [] := by
 show (if k = k then b = a else False)
 rw [if_pos rfl]; exact h
set_option maxRecDepth 100000 in
theorem within_ok (n most : Int) : Pure Tryz.prog 171 [.v (.int .i64 n), .v (.int .i64 most)] (vbool (decide (IntKind.wrap .i64 (0 - most) ≤ n) && decide (n ≤ most))) := by
 refine pure_of_W 2 g2 (by_P (p := let K := endP (vbool (decide (IntKind.wrap .i64 (0 - most) ≤ n) && decide (n ≤ most)))
  (decide (IntKind.wrap .i64 (0 - most) ≤ n) = true → K (vbool (decide (n ≤ most))) []) ∧ (decide (IntKind.wrap .i64 (0 - most) ≤ n) = false → K (vbool false) [])) ?_ (by kernel_rfl))
 exact ⟨fun h => endB (by rw [h]; rfl), fun h => endB (by rw [h]; rfl)⟩
set_option maxRecDepth 100000 in
theorem far_ok (n : Int) : Pure Tryz.prog 192 [.v (.int .i64 n)] (vbool (decide (n < -512) || decide (512 < n))) := by
 refine pure_of_W 2 g2 (by_P (p := let K := endP (vbool (decide (n < -512) || decide (512 < n)))
  ((!decide (n < -512)) = true → K (vbool (decide (512 < n))) []) ∧ ((!decide (n < -512)) = false → K (vbool true) [])) ?_ (by kernel_rfl))
 exact ⟨fun h => endB (by simp only [Bool.not_eq_true'] at h; rw [h]; rfl), fun h => endB (by simp only [Bool.not_eq_false'] at h; rw [h]; rfl)⟩
set_option maxRecDepth 100000 in
theorem point_ok (c n m : Int) : Pure Tryz.prog 57 [.agg [.v (.int .i64 c), .v (.int .i64 n), .v (.int .i64 m)]] (vbool (decide (10 ≤ c) && decide (c ≤ 13))) := by
 refine pure_of_W 2 g2 (by_P (p := let K := endP (vbool (decide (10 ≤ c) && decide (c ≤ 13)))
  (decide (10 ≤ c) = true → K (vbool (decide (c ≤ 13))) []) ∧ (decide (10 ≤ c) = false → K (vbool false) [])) ?_ (by kernel_rfl))
 exact ⟨fun h => endB (by rw [h]; rfl), fun h => endB (by rw [h]; rfl)⟩
set_option maxRecDepth 100000 in
theorem limited_ok (u : Int) : Pure Tryz.prog 74 [.v (.int .i64 u)] (vint .i64 (max (-64) (min u 64))) := by
 refine pure_of_W 2 g2 (by_P (p := endP (vint .i64 (max (-64) (min u 64))) (vint .i64 (max (-64) (min u 64))) []) ?_ (by kernel_rfl))
 exact endI rfl
set_option maxRecDepth 100000 in
theorem size_ok (n : Int) : Pure Tryz.prog 100 [.v (.int .i64 n)] (vint .u64 (if n < 0 then IntKind.wrap .u64 (0 - IntKind.wrap .u64 n) else IntKind.wrap .u64 n)) := by
 refine pure_of_W 2 g2 (by_P (p := let K := endP (vint .u64 (if n < 0 then IntKind.wrap .u64 (0 - IntKind.wrap .u64 n) else IntKind.wrap .u64 n))
  (decide (n < 0) = true → K (vint .u64 (IntKind.wrap .u64 (0 - IntKind.wrap .u64 n))) []) ∧ (decide (n < 0) = false → K (vint .u64 (IntKind.wrap .u64 n)) [])) ?_ (by kernel_rfl))
 exact ⟨fun h => endI (by rw [if_pos (by simpa using h)]), fun h => endI (by rw [if_neg (by simpa using h)])⟩
end Go.Proofs.YtekhlnihpfkkkaaGreatDoor
namespace Go.Proofs.YtekhlnihpfkkkaaGreatDoor
open Go.Eng
def sizeS (n : Int) : Int := if n < 0 then IntKind.wrap .u64 (0 - IntKind.wrap .u64 n) else IntKind.wrap .u64 n
def mulG (x y : Int × Int) : Int := gcdS (sizeS x.1) (sizeS y.2)
def mulS (x y : Int × Int) : (Int × Int) × Bool :=
 let a := lowS x
 let b := lowS y
 if !a.2 || !b.2 then ((0, 0), false)
 else ratioS (decide (IntKind.wrap .i64 (signS a.1.1 * signS b.1.1) < 0))
  (timesS (IntKind.wrap .u64 ((sizeS a.1.1).tdiv (mulG a.1 b.1))) (IntKind.wrap .u64 ((sizeS b.1.1).tdiv (mulG b.1 a.1))))
  (timesS (IntKind.wrap .u64 ((sizeS a.1.2).tdiv (mulG b.1 a.1))) (IntKind.wrap .u64 ((sizeS b.1.2).tdiv (mulG a.1 b.1))))
def pcM : FuncId → List PV → Option D := fun f ar =>
 bif Nat.beq f 98 then (match ar with
  | [.agg [.v (.int _ n), .v (.int _ d)]] => some (.tup [.p (eR (lowS (n, d)).1), vbool (lowS (n, d)).2])
  | _ => none)
 else bif Nat.beq f 99 then (match ar with
  | [.v (.int _ a), .v (.int _ b)] => some (vint .u64 (gcdS a b))
  | _ => none)
 else bif Nat.beq f 100 then (match ar with
  | [.v (.int _ a)] => some (vint .u64 (sizeS a))
  | _ => none)
 else bif Nat.beq f 102 then (match ar with
  | [.v (.int _ a)] => some (vint .i64 (signS a))
  | _ => none)
 else bif Nat.beq f 103 then (match ar with
  | [.v (.int _ a), .v (.int _ b)] => some (.p (eW (timesS a b)))
  | _ => none)
 else bif Nat.beq f 101 then (match ar with
  | [.v (.bool n), .vec _ _ g, .vec _ _ h] => (match g 0, g 1, h 0, h 1 with
   | .v (.int _ a), .v (.int _ b), .v (.int _ c), .v (.int _ d) => some (.tup [.p (eR (ratioS n (a, b) (c, d)).1), vbool (ratioS n (a, b) (c, d)).2])
   | _, _, _, _ => none)
  | _ => none)
 else none
def hMul : FuncId → FH := fun _ => { sp := List.range 100, reg := fun _ => { sh := none, g := 2 }, pc := pcM }
theorem wu0 (n : Int) : 0 ≤ IntKind.wrap .u64 n := Int.emod_nonneg _ (by decide)
theorem size_pos (n : Int) : 0 ≤ sizeS n := by
 unfold sizeS
 split <;> exact wu0 _
theorem size_id {n : Int} (h1 : 0 ≤ n) (h2 : n < 2 ^ 63) : sizeS n = n := by
 unfold sizeS
 rw [if_neg (by omega)]
 exact Int.emod_eq_of_lt h1 (show n < 2 ^ 64 by omega)
theorem low_den {r : Int × Int} (hd : r.2 < 2 ^ 63) (h : (lowS r).2 = true) : 1 ≤ (lowS r).1.2 ∧ (lowS r).1.2 < 2 ^ 63 := by
 by_cases h1 : r.2 < 1
 ·simp only [lowS, if_pos h1] at h; cases h
 ·simp only [lowS, if_neg h1]
  have h3 := gcdI_ne (a := r.1) (b := r.2) (by omega)
  have h4 : (gcdI r.1 r.2).natAbs ≤ r.2.natAbs := gcdN_le (by omega) (by omega)
  have h5 : 0 < lowG r.1 r.2 ∧ lowG r.1 r.2 ≤ r.2 := by
   unfold lowG
   split
   ·rw [wr64 (m := 0 - gcdI r.1 r.2) (by omega) (by omega) rfl]; omega
   ·omega
  have h6 : r.2.tdiv (lowG r.1 r.2) = r.2 / lowG r.1 r.2 := Int.tdiv_eq_ediv_of_nonneg (by omega)
  have h7 : 1 ≤ r.2 / lowG r.1 r.2 := by rw [Int.le_ediv_iff_mul_le h5.1]; omega
  have h8 : r.2 / lowG r.1 r.2 ≤ r.2 := Int.ediv_le_self _ (by omega)
  rw [h6, wr64 (m := r.2 / lowG r.1 r.2) (by omega) (by omega) rfl]
  omega
theorem gcdS_ne {a b : Int} (h : 1 ≤ b) : gcdS a b ≠ 0 := gcdN_ne (by omega) (fun e => by omega)
set_option maxRecDepth 100000 in
theorem mul_ok (x y : Int × Int) (hx : x.2 < 2 ^ 63) (hy : y.2 < 2 ^ 63) : Pure Tryz.prog 75 [eR x, eR y] (.tup [.p (eR (mulS x y).1), vbool (mulS x y).2]) := by
 let K : KV := endP (.tup [.p (eR (mulS x y).1), vbool (mulS x y).2])
 refine pure_by 6 hMul (p :=
  let a0_45 : PV := PV.v (Value.int IntKind.i64 (0 : Int)); let a0_44 : (Int × Int) × Bool := lowS (x.fst, x.snd); let a0_43 : (Int × Int) × Bool := lowS (y.fst, y.snd); let a0_42 : Int × Int := a0_44.fst; let a0_41 : Int × Int := a0_43.fst; let a0_40 : Int := a0_41.fst; let a0_39 : Int := a0_42.snd; let a0_38 : Int := a0_41.snd; let a0_37 : Int := a0_42.fst; let a0_36 : Int := sizeS a0_37; let a0_35 : Int := sizeS a0_38; let a0_34 : Int := sizeS a0_39; let a0_33 : Int := signS a0_40; let a0_32 : Int := sizeS a0_40; let a0_31 : Int := signS a0_37; let a0_30 : D := vint IntKind.u64 a0_36; let a0_29 : D := vint IntKind.u64 a0_34; let a0_28 : PV := PV.v (Value.int IntKind.i64 a0_37); let a0_27 : D := vint IntKind.u64 a0_35; let a0_26 : D := vint IntKind.u64 a0_32; let a0_25 : PV := PV.v (Value.int IntKind.i64 a0_40); let a0_24 : D := D.p (PV.agg [a0_45, a0_45]); let a0_23 : List PV := [a0_28]; let a0_22 : List PV := [PV.v (Value.int IntKind.i64 a0_38)]; let a0_21 : List PV := [PV.v (Value.int IntKind.i64 a0_39)]; let a0_20 : List PV := [a0_25]; let a0_19 : D := D.tup [a0_24, D.p (PV.v (Value.bool false))]; let a0_18 : Int := gcdS a0_36 a0_35; let a0_17 : Int := gcdS a0_32 a0_34; let a0_16 : Int := IntKind.i64.wrap (a0_31 * a0_33); let a0_15 : O := O.box (D.p (PV.agg (a0_28 :: a0_21))); let a0_14 : O := O.box (D.p (PV.agg (a0_25 :: a0_22))); let a0_13 : Int := IntKind.u64.wrap (a0_35.tdiv a0_18); let a0_12 : Int := IntKind.u64.wrap (a0_32.tdiv a0_17); let a0_11 : Int := IntKind.u64.wrap (a0_34.tdiv a0_17); let a0_10 : Int := IntKind.u64.wrap (a0_36.tdiv a0_18); let a0_9 : Int × Int := timesS a0_10 a0_12; let a0_8 : Int × Int := timesS a0_11 a0_13; let a0_7 : Int := a0_9.snd; let a0_6 : Int := a0_9.fst; let a0_5 : Int := a0_8.fst; let a0_4 : Int := a0_8.snd; let a0_3 : List O := [a0_15, a0_14, O.box a0_24]; let a0_2 : (Int × Int) × Bool := ratioS (decide (a0_16 < (0 : Int))) (a0_6, a0_7) (a0_5, a0_4); let a0_1 : Int × Int := a0_2.fst; let a0_0 : D := D.p (PV.agg [PV.v (Value.int IntKind.i64 a0_1.fst), PV.v (Value.int IntKind.i64 a0_1.snd)]); Eng.Pure Tryz.prog 98 [PV.agg [PV.v (Value.int IntKind.i64 x.fst), PV.v (Value.int IntKind.i64 x.snd)]] (D.tup [D.p (eR a0_42), vbool a0_44.snd]) ∧ Eng.Pure Tryz.prog 98 [PV.agg [PV.v (Value.int IntKind.i64 y.fst), PV.v (Value.int IntKind.i64 y.snd)]] (D.tup [D.p (eR a0_41), vbool a0_43.snd]) ∧ ((!!a0_44.snd) = true → ((!a0_43.snd) = true → K a0_19 a0_3) ∧ ((!a0_43.snd) = false → Eng.Pure Tryz.prog 100 a0_23 a0_30 ∧ Eng.Pure Tryz.prog 100 a0_22 a0_27 ∧ Eng.Pure Tryz.prog 99 [PV.v (Value.int IntKind.u64 a0_36), PV.v (Value.int IntKind.u64 a0_35)] (vint IntKind.u64 a0_18) ∧ Eng.Pure Tryz.prog 100 a0_20 a0_26 ∧ Eng.Pure Tryz.prog 100 a0_21 a0_29 ∧ Eng.Pure Tryz.prog 99 [PV.v (Value.int IntKind.u64 a0_32), PV.v (Value.int IntKind.u64 a0_34)] (vint IntKind.u64 a0_17) ∧ Eng.Pure Tryz.prog 102 a0_23 (vint IntKind.i64 a0_31) ∧ Eng.Pure Tryz.prog 102 a0_20 (vint IntKind.i64 a0_33) ∧ Eng.Pure Tryz.prog 100 a0_23 a0_30 ∧ (a0_18 = (0 : Int) → False) ∧ Eng.Pure Tryz.prog 100 a0_20 a0_26 ∧ (a0_17 = (0 : Int) → False) ∧ Eng.Pure Tryz.prog 103 [PV.v (Value.int IntKind.u64 a0_10), PV.v (Value.int IntKind.u64 a0_12)] (D.p (eW a0_9)) ∧ Eng.Pure Tryz.prog 100 a0_21 a0_29 ∧ (a0_17 = (0 : Int) → False) ∧ Eng.Pure Tryz.prog 100 a0_22 a0_27 ∧ (a0_18 = (0 : Int) → False) ∧ Eng.Pure Tryz.prog 103 [PV.v (Value.int IntKind.u64 a0_11), PV.v (Value.int IntKind.u64 a0_13)] (D.p (eW a0_8)) ∧ Eng.Pure Tryz.prog 101 [PV.v (Value.bool (decide (a0_16 < (0 : Int)))), PV.vec 1 2 (upd (upd (fun (x : Nat) => eU (0 : Int)) 0 (eU a0_6)) 1 (eU a0_7)), PV.vec 1 2 (upd (upd (fun (x : Nat) => eU (0 : Int)) 0 (eU a0_5)) 1 (eU a0_4))] (D.tup [D.p (eR a0_1), vbool a0_2.snd]) ∧ K (D.tup [a0_0, D.p (PV.v (Value.bool a0_2.snd))]) [a0_15, a0_14, O.box a0_0])) ∧ ((!!a0_44.snd) = false → K a0_19 a0_3)) (by kernel_rfl) ?_
 have hK : ∀ (q : Int × Int) (o : Bool) (H : List O), (q, o) = mulS x y → K (.tup [.p (eR q), vbool o]) H := fun q o H h => ⟨congrArg D.p (congrArg eR (congrArg Prod.fst h)), congrArg Prod.snd h, trivial⟩
 have lo : ∀ r : Int × Int, r.2 < 2 ^ 63 → Pure Tryz.prog 98 [eR r] (.tup [.p (eR (lowS r).1), vbool (lowS r).2]) := fun r h => low_ok r.1 r.2 h
 refine ⟨lo x hx, lo y hy, fun h1 => ⟨fun h2 => hK (0, 0) false _ ?_, fun h2 => ?_⟩, fun h1 => hK (0, 0) false _ ?_⟩
 ·simp only [mulS]; simp_all
 ·have e1 : (lowS x).2 = true := by simpa using h1
  have e2 : (lowS y).2 = true := by simpa using h2
  have d1 := low_den hx e1
  have d2 := low_den hy e2
  have n1 : mulG (lowS x).1 (lowS y).1 ≠ 0 := gcdS_ne (by rw [size_id (by omega) (by omega)]; omega)
  have n2 : mulG (lowS y).1 (lowS x).1 ≠ 0 := gcdS_ne (by rw [size_id (by omega) (by omega)]; omega)
  refine ⟨size_ok _, size_ok _, gcdU_ok _ _ (size_pos _) (size_pos _), size_ok _, size_ok _, gcdU_ok _ _ (size_pos _) (size_pos _), sign_ok _, sign_ok _, size_ok _, n1, size_ok _, n2, times_ok _ _, size_ok _, n2, size_ok _, n1, times_ok _ _, ratio_ok _ _ _ _ _, hK _ _ _ ?_⟩
  simp only [mulS, e1, e2]
  rfl
 ·simp only [mulS]; simp_all
end Go.Proofs.YtekhlnihpfkkkaaGreatDoor
namespace Go.Proofs.YtekhlnihpfkkkaaGreatDoor
open Go.Eng
abbrev Tn := Int × Int × Int
def eT (t : Tn) : PV := .agg [eI t.1, eI t.2.1, eI t.2.2]
def valueS (t : Tn) (v : Int) : Int × Int :=
 if (t.1 = t.1 ∧ t.2.1 = 0 ∧ t.2.2 = t.2.2) ∨ v = t.2.1 then (1, 1)
 else if v ≤ t.1 ∨ t.2.2 ≤ v then (0, 1)
 else if v < t.2.1 then (IntKind.wrap .i64 (v - t.1), IntKind.wrap .i64 (t.2.1 - t.1))
 else (IntKind.wrap .i64 (t.2.2 - v), IntKind.wrap .i64 (t.2.2 - t.2.1))
def validS (t : Tn) : Bool := decide (-64 ≤ t.1) && decide (t.1 ≤ t.2.1) && decide (t.2.1 ≤ t.2.2) && decide (t.2.2 ≤ 64) && (decide (0 ≤ t.1) || decide (t.2.2 ≤ 0) || decide (t.2.1 = 0))
set_option maxRecDepth 100000 in
theorem value_ok (t : Tn) (v : Int) : Pure Tryz.prog 76 [eT t, eI v] (.p (eR (valueS t v))) := by
 let K : KV := endP (.p (eR (valueS t v)))
 refine pure_by 6 hAll2 (p :=
  let a0_16 : PV := PV.v (Value.int IntKind.i64 (0 : Int)); let a0_15 : PV := PV.v (Value.int IntKind.i64 (1 : Int)); let a0_14 : Int := t.snd.fst; let a0_13 : PV := PV.v (Value.int IntKind.i64 t.fst); let a0_12 : Int := t.snd.snd; let a0_11 : List PV := [a0_15]; let a0_10 : List PV := [PV.v (Value.int IntKind.i64 a0_12)]; let a0_9 : D := D.p (PV.agg (a0_16 :: a0_11)); let a0_8 : D := D.p (PV.agg (a0_15 :: a0_11)); let a0_7 : O := O.box (D.p (PV.agg (a0_13 :: PV.v (Value.int IntKind.i64 a0_14) :: a0_10))); let a0_6 : List O := [O.box (D.p (PV.agg (a0_13 :: a0_16 :: a0_10)))]; let a0_5 : D := D.p (PV.agg [PV.v (Value.int IntKind.i64 (IntKind.i64.wrap (v - t.fst))), PV.v (Value.int IntKind.i64 (IntKind.i64.wrap (a0_14 - t.fst)))]); let a0_4 : D := D.p (PV.agg [PV.v (Value.int IntKind.i64 (IntKind.i64.wrap (a0_12 - v))), PV.v (Value.int IntKind.i64 (IntKind.i64.wrap (a0_12 - a0_14)))]); let a0_3 : List O := a0_7 :: O.box a0_9 :: a0_6; let a0_2 : List O := a0_7 :: O.box a0_8 :: a0_6; let a0_1 : List O := a0_7 :: O.box a0_5 :: a0_6; let a0_0 : List O := a0_7 :: O.box a0_4 :: a0_6; ((t.fst == t.fst && (a0_14 == (0 : Int) && (a0_12 == a0_12 && true))) = true → ((t.fst == t.fst && (a0_14 == (0 : Int) && (a0_12 == a0_12 && true))) = true → K a0_8 a0_2) ∧ ((t.fst == t.fst && (a0_14 == (0 : Int) && (a0_12 == a0_12 && true))) = false → ((!decide (v ≤ t.fst)) = true → (decide (a0_12 ≤ v) = true → K a0_9 a0_3) ∧ (decide (a0_12 ≤ v) = false → (decide (v < a0_14) = true → K a0_5 a0_1) ∧ (decide (v < a0_14) = false → K a0_4 a0_0))) ∧ ((!decide (v ≤ t.fst)) = false → K a0_9 a0_3))) ∧ ((t.fst == t.fst && (a0_14 == (0 : Int) && (a0_12 == a0_12 && true))) = false → ((v == a0_14) = true → K a0_8 a0_2) ∧ ((v == a0_14) = false → ((!decide (v ≤ t.fst)) = true → (decide (a0_12 ≤ v) = true → K a0_9 a0_3) ∧ (decide (a0_12 ≤ v) = false → (decide (v < a0_14) = true → K a0_5 a0_1) ∧ (decide (v < a0_14) = false → K a0_4 a0_0))) ∧ ((!decide (v ≤ t.fst)) = false → K a0_9 a0_3)))) (by kernel_rfl) ?_
 have hK : ∀ (q : Int × Int) (H : List O), q = valueS t v → K (.p (eR q)) H := fun q H h => congrArg D.p (congrArg eR h)
 refine ⟨fun h => ⟨fun _ => hK (_, _) _ ?_, fun h2 => absurd (h.symm.trans h2) (by simp)⟩, fun h => ⟨fun h2 => hK (_, _) _ ?_, fun h2 => ⟨fun h3 => ⟨fun h4 => hK (_, _) _ ?_, fun h4 => ⟨fun h5 => hK (IntKind.wrap .i64 (v - t.1), IntKind.wrap .i64 (t.2.1 - t.1)) _ ?_, fun h5 => hK (IntKind.wrap .i64 (t.2.2 - v), IntKind.wrap .i64 (t.2.2 - t.2.1)) _ ?_⟩⟩, fun h3 => hK (_, _) _ ?_⟩⟩⟩
 ·simp only [valueS]; simp_all
 ·simp only [valueS]; simp_all
 ·simp only [valueS]; simp_all
 ·simp at h h2 h3 h4 h5
  simp only [valueS]
  rw [if_neg (by omega), if_neg (by omega), if_pos (by omega)]
 ·simp at h h2 h3 h4 h5
  simp only [valueS]
  rw [if_neg (by omega), if_neg (by omega), if_neg (by omega)]
 ·simp only [valueS]; simp_all
set_option maxRecDepth 100000 in
theorem valid_ok (t : Tn) : Pure Tryz.prog 54 [eT t] (vbool (validS t)) := by
 let K : KV := endP (vbool (validS t))
 refine pure_by 6 hAll2 (p :=
  let a0_3 : Int := (-64 : Int); let a0_2 : Int := t.snd.fst; let a0_1 : Int := t.snd.snd; let a0_0 : List O := [O.box (D.p (PV.agg [PV.v (Value.int IntKind.i64 t.fst), PV.v (Value.int IntKind.i64 a0_2), PV.v (Value.int IntKind.i64 a0_1)]))]; (decide (a0_3 ≤ t.fst) = true → (decide (t.fst ≤ a0_2) = true → (decide (a0_2 ≤ a0_1) = true → (decide (a0_1 ≤ (64 : Int)) = true → ((!decide ((0 : Int) ≤ t.fst)) = true → ((!decide (a0_1 ≤ (0 : Int))) = true → K (D.p (PV.v (Value.bool (a0_2 == (0 : Int))))) a0_0) ∧ ((!decide (a0_1 ≤ (0 : Int))) = false → K (D.p (PV.v (Value.bool true))) a0_0)) ∧ ((!decide ((0 : Int) ≤ t.fst)) = false → K (D.p (PV.v (Value.bool true))) a0_0)) ∧ (decide (a0_1 ≤ (64 : Int)) = false → K (D.p (PV.v (Value.bool false))) a0_0)) ∧ (decide (a0_2 ≤ a0_1) = false → K (D.p (PV.v (Value.bool false))) a0_0)) ∧ (decide (t.fst ≤ a0_2) = false → K (D.p (PV.v (Value.bool false))) a0_0)) ∧ (decide (a0_3 ≤ t.fst) = false → K (D.p (PV.v (Value.bool false))) a0_0)) (by kernel_rfl) ?_
 have hK : ∀ (q : Bool) (H : List O), q = validS t → K (vbool q) H := fun q H h => h
 refine ⟨fun h1 => ⟨fun h2 => ⟨fun h3 => ⟨fun h4 => ⟨fun h5 => ⟨fun h6 => hK _ _ ?_, fun h6 => hK _ _ ?_⟩, fun h5 => hK _ _ ?_⟩, fun h4 => hK _ _ ?_⟩, fun h3 => hK _ _ ?_⟩, fun h2 => hK _ _ ?_⟩, fun h1 => hK _ _ ?_⟩
 all_goals (rw [Bool.eq_iff_iff]; clear hK K; simp [validS] at *; omega)
end Go.Proofs.YtekhlnihpfkkkaaGreatDoor
namespace Go.Proofs.YtekhlnihpfkkkaaGreatDoor
open Go.Eng
def tn0 : Tn := (0, 0, 0)
def eTs (l : List Tn) : PV := eL eT 3 tn0 l
def lFit (l : List Tn) : Nat → Env → List O → Option LH := fun _ E H =>
 some (mkLH E H [0, 1, 6, 7] [] (fun z : Nat => [(8, none, vint .i64 z)]) (fun _ => []) (fun z => z ≤ l.length ∧ ∀ j, j < z → validS (l.getD j tn0) = true) (fun z => l.length - z))
def pcV : FuncId → List PV → Option D := fun f ar => bif Nat.beq f 54 then (match ar with
  | [.agg [.v (.int _ a), .v (.int _ b), .v (.int _ c)]] => some (vbool (validS (a, b, c)))
  | _ => none)
 else none
def hFit (l : List Tn) : FuncId → FH := fun f => bif Nat.beq f 73 then { sp := List.range 100, reg := fun _ => { sh := none, g := 2 }, pc := pcV, lp := lFit l }
 else { sp := List.range 100, reg := fun _ => { sh := none, g := 2 }, pc := pcV }
set_option maxRecDepth 100000 in
theorem fits_ok (l : List Tn) (n : Int) (hl : l.length < 2 ^ 40) : Pure Tryz.prog 28 [eTs l, eI n] (vbool (decide ((l.length : Int) = n) && l.all validS)) := by
 let K : KV := endP (vbool (decide ((l.length : Int) = n) && l.all validS))
 refine pure_by 6 (hFit l) (p :=
  let a0_1 : Option Bool × D := (none, D.p (PV.lst 3 l.length fun (i : Nat) => eT (l.getD i tn0))); let a0_0 : List (Nat × Option Bool × D) := [(0, a0_1), (1, none, D.fn 53 [] []), (6, a0_1), (7, none, D.p (PV.v (Value.int IntKind.i64 (↑l.length : Int))))]; (((↑l.length : Int) == n) = true → (∃ (x : Nat), (x ≤ l.length ∧ ∀ (j : Nat), j < x → validS (l.getD j tn0) = true) ∧ Int.ofNat 0 = (↑x : Int) ∧ a0_0 = a0_0 ∧ ([] : List O) = []) ∧ ∀ (z : Nat), let a1_6 : Tn := l.getD (↑z : Int).toNat tn0; let a1_5 : Int × Int := a1_6.snd; let a1_4 : Int := a1_6.fst; let a1_3 : Int := a1_5.fst; let a1_2 : Int := a1_5.snd; let a1_1 : Int × Int × Int := (a1_4, a1_3, a1_2); let a1_0 : PV := PV.agg [PV.v (Value.int IntKind.i64 a1_4), PV.v (Value.int IntKind.i64 a1_3), PV.v (Value.int IntKind.i64 a1_2)]; (z ≤ l.length ∧ ∀ (j : Nat), j < z → validS (l.getD j tn0) = true) → (decide ((↑z : Int) < (↑l.length : Int)) = true → (0 : Int) ≤ (↑z : Int) ∧ (↑z : Int) < (↑l.length : Int) ∧ Eng.Pure Tryz.prog 54 [a1_0] (vbool (validS a1_1)) ∧ ((!validS a1_1) = true → K (D.p (PV.v (Value.bool !decide ((0 : Int) ≤ (↑z : Int))))) [O.box (D.p a1_0)]) ∧ ((!validS a1_1) = false → ∃ (y : Nat), (y ≤ l.length ∧ ∀ (j : Nat), j < y → validS (l.getD j tn0) = true) ∧ l.length - y < l.length - z ∧ IntKind.i64.wrap ((↑z : Int) + (1 : Int)) = (↑y : Int) ∧ a0_0 = a0_0 ∧ ([] : List O) = [])) ∧ (decide ((↑z : Int) < (↑l.length : Int)) = false → K (D.p (PV.v (Value.bool !decide ((0 : Int) ≤ Int.negSucc 0)))) [])) ∧ (((↑l.length : Int) == n) = false → K (D.p (PV.v (Value.bool false))) [])) (by kernel_rfl) ?_
 have hK : ∀ (q : Bool) (H : List O), q = (decide ((l.length : Int) = n) && l.all validS) → K (vbool q) H := fun q H h => h
 have hall : ∀ z, z < l.length → validS (l.getD z tn0) = false → l.all validS = false := fun z hz h => by
  rw [List.all_eq_false]
  exact ⟨l.getD z tn0, by simp [List.getD, hz], by rw [h]; simp⟩
 simp only [Int.toNat_natCast, decide_eq_true_eq, decide_eq_false_iff_not, and_true]
 refine ⟨fun h => ⟨⟨0, ⟨by omega, fun j hj => by omega⟩, rfl⟩, fun z hz => ⟨fun h1 => ⟨by omega, h1, valid_ok _, fun h2 => hK _ _ ?_, fun h2 => ⟨z + 1, ⟨by omega, fun j hj => ?_⟩, by omega, wr64 (by omega) (by omega) (by omega)⟩⟩, fun h1 => hK _ _ ?_⟩⟩, fun h => hK _ _ ?_⟩
 ·rw [hall z (by omega) (by simpa using h2)]; simp
 ·by_cases hj2 : j = z
  ·subst hj2; simpa using h2
  ·exact hz.2 j (by omega)
 ·have ha : l.all validS = true := by
   rw [List.all_eq_true]
   intro x hx
   obtain ⟨i, hi, rfl⟩ := List.getElem_of_mem hx
   have := hz.2 i (by omega)
   simpa [List.getD, hi] using this
  rw [ha]; simp at h; simp [h]
 ·simp at h; simp [h]
end Go.Proofs.YtekhlnihpfkkkaaGreatDoor
namespace Go.Proofs.YtekhlnihpfkkkaaGreatDoor
open Go.Eng
def eIs (l : List Int) : PV := eL eI 1 0 l
def atS (p : List Int) (k : Nat) : Int := if k < p.length then max (-64) (min (p.getD k 0) 64) else 0
def scalN (l : List Tn) (p : List Int) : Nat → Int × Int
 | 0 => (1, 1)
 | k + 1 => (mulS (scalN l p k) (valueS (l.getD k tn0) (atS p k))).1
def scalarS (l : List Tn) (p : List Int) : Int × Int := if l.all validS then scalN l p l.length else (0, 0)
def lSca (l : List Tn) (p : List Int) : Nat → Env → List O → Option LH := fun _ E H =>
 some (mkLH E H [0, 1, 4, 5, 16, 17] [1] (fun z : Nat => [(18, none, vint .i64 z)]) (fun z => [(1, .box (.p (eR (scalN l p z))))]) (fun z => z ≤ l.length) (fun z => l.length - z))
def pcS (l : List Tn) : FuncId → List PV → Option D := fun f ar =>
 bif Nat.beq f 28 then some (vbool (l.all validS))
 else bif Nat.beq f 74 then (match ar with
  | [.v (.int _ a)] => some (vint .i64 (max (-64) (min a 64)))
  | _ => none)
 else bif Nat.beq f 76 then (match ar with
  | [.agg [.v (.int _ a), .v (.int _ b), .v (.int _ c)], .v (.int _ v)] => some (.p (eR (valueS (a, b, c) v)))
  | _ => none)
 else bif Nat.beq f 75 then (match ar with
  | [.agg [.v (.int _ a), .v (.int _ b)], .agg [.v (.int _ c), .v (.int _ d)]] => some (.tup [.p (eR (mulS (a, b) (c, d)).1), vbool (mulS (a, b) (c, d)).2])
  | _ => none)
 else none
def hSca (l : List Tn) (p : List Int) : FuncId → FH := fun _ => { sp := List.range 100, reg := fun _ => { sh := none, g := 2 }, pc := pcS l, lp := lSca l p }
theorem wi_lt (n : Int) : IntKind.wrap .i64 n < 2 ^ 63 := by
 rw [IntKind.wrap_i64]; omega
theorem num_lt (w : Int × Int) (n : Bool) : (numS w n).1 < 2 ^ 63 := by
 simp only [numS]
 split
 ·decide
 ·split <;> exact wi_lt _
theorem ratio_lt (n : Bool) (a b : Int × Int) : (ratioS n a b).1.2 < 2 ^ 63 := by
 simp only [ratioS]
 split
 ·decide
 ·exact num_lt _ _
theorem mul_lt (x y : Int × Int) : (mulS x y).1.2 < 2 ^ 63 := by
 simp only [mulS]
 split
 ·decide
 ·exact ratio_lt _ _ _
theorem scal_lt (l : List Tn) (p : List Int) : ∀ k, (scalN l p k).2 < 2 ^ 63
 | 0 => show (1 : Int) < _ by decide
 | k + 1 => mul_lt _ _
theorem value_lt (t : Tn) (v : Int) : (valueS t v).2 < 2 ^ 63 := by
 simp only [valueS]
 split
 ·decide
 ·split
  ·decide
  ·split <;> exact wi_lt _
set_option maxRecDepth 100000 in
theorem scalar_ok (l : List Tn) (p : List Int) (hl : l.length < 2 ^ 40) (hp : p.length < 2 ^ 40) : Pure Tryz.prog 55 [eTs l, eIs p] (.p (eR (scalarS l p))) := by
 let K : KV := endP (.p (eR (scalarS l p)))
 refine pure_by 6 (hSca l p) (p :=
  let a0_7 : Int := (-64 : Int); let a0_6 : PV := PV.v (Value.int IntKind.i64 (0 : Int)); let a0_5 : PV := PV.v (Value.int IntKind.i64 (1 : Int)); let a0_4 : PV := PV.v (Value.int IntKind.i64 (↑l.length : Int)); let a0_3 : PV := PV.lst 3 l.length fun (i : Nat) => eT (l.getD i tn0); let a0_2 : D := D.p (PV.agg [a0_6, a0_6]); let a0_1 : List O := [O.box a0_2]; let a0_0 : List (Nat × Option Bool × D) := [(0, none, D.p (eTs l)), (1, none, D.p (eIs p)), (4, none, D.ref 0 []), (5, none, D.ref 1 []), (16, none, D.p a0_3), (17, none, D.p a0_4)]; Eng.Pure Tryz.prog 28 [a0_3, a0_4] (vbool (l.all validS)) ∧ ((!l.all validS) = true → K a0_2 a0_1) ∧ ((!l.all validS) = false → (∃ (x : Nat), x ≤ l.length ∧ Int.ofNat 0 = (↑x : Int) ∧ D.p (PV.agg [a0_5, a0_5]) = D.p (eR (scalN l p x)) ∧ a0_0 = a0_0 ∧ a0_1 = a0_1) ∧ ∀ (z : Nat), let a1_23 : Tn := l.getD (↑z : Int).toNat tn0; let a1_22 : Nat := l.length - z; let a1_21 : Int := p.getD (↑z : Int).toNat (0 : Int); let a1_20 : Int × Int := a1_23.snd; let a1_19 : Int := a1_23.fst; let a1_18 : Int := a1_20.snd; let a1_17 : Int × Int := ((scalN l p z).fst, (scalN l p z).snd); let a1_16 : Int := a1_20.fst; let a1_15 : Int := IntKind.i64.wrap ((↑z : Int) + (1 : Int)); let a1_14 : Int := max a0_7 (min a1_21 (64 : Int)); let a1_13 : PV := PV.agg [PV.v (Value.int IntKind.i64 (scalN l p z).fst), PV.v (Value.int IntKind.i64 (scalN l p z).snd)]; let a1_12 : D := D.p a1_13; let a1_11 : Int × Int × Int := (a1_19, a1_16, a1_18); let a1_10 : Int × Int := valueS a1_11 (Int.ofNat 0); let a1_9 : Int := a1_10.fst; let a1_8 : Int := a1_10.snd; let a1_7 : PV := PV.agg [PV.v (Value.int IntKind.i64 a1_19), PV.v (Value.int IntKind.i64 a1_16), PV.v (Value.int IntKind.i64 a1_18)]; let a1_6 : Int × Int := valueS a1_11 a1_14; let a1_5 : Int := a1_6.fst; let a1_4 : Int := a1_6.snd; let a1_3 : (Int × Int) × Bool := mulS a1_17 (a1_9, a1_8); let a1_2 : Int × Int := a1_3.fst; let a1_1 : (Int × Int) × Bool := mulS a1_17 (a1_5, a1_4); let a1_0 : Int × Int := a1_1.fst; z ≤ l.length → (decide ((↑z : Int) < (↑l.length : Int)) = true → (0 : Int) ≤ (↑z : Int) ∧ (↑z : Int) < (↑l.length : Int) ∧ (decide ((↑z : Int) < (↑p.length : Int)) = true → (0 : Int) ≤ (↑z : Int) ∧ (↑z : Int) < (↑p.length : Int) ∧ Eng.Pure Tryz.prog 74 [PV.v (Value.int IntKind.i64 a1_21)] (vint IntKind.i64 a1_14) ∧ Eng.Pure Tryz.prog 76 [a1_7, PV.v (Value.int IntKind.i64 a1_14)] (D.p (eR a1_6)) ∧ Eng.Pure Tryz.prog 75 [a1_13, PV.agg [PV.v (Value.int IntKind.i64 a1_5), PV.v (Value.int IntKind.i64 a1_4)]] (D.tup [D.p (eR a1_0), vbool a1_1.snd]) ∧ ∃ (y : Nat), y ≤ l.length ∧ l.length - y < a1_22 ∧ a1_15 = (↑y : Int) ∧ D.p (PV.agg [PV.v (Value.int IntKind.i64 a1_0.fst), PV.v (Value.int IntKind.i64 a1_0.snd)]) = D.p (eR (scalN l p y)) ∧ a0_0 = a0_0 ∧ a0_1 = a0_1) ∧ (decide ((↑z : Int) < (↑p.length : Int)) = false → Eng.Pure Tryz.prog 76 [a1_7, PV.v (Value.int IntKind.i64 (Int.ofNat 0))] (D.p (eR a1_10)) ∧ Eng.Pure Tryz.prog 75 [a1_13, PV.agg [PV.v (Value.int IntKind.i64 a1_9), PV.v (Value.int IntKind.i64 a1_8)]] (D.tup [D.p (eR a1_2), vbool a1_3.snd]) ∧ ∃ (y : Nat), y ≤ l.length ∧ l.length - y < a1_22 ∧ a1_15 = (↑y : Int) ∧ D.p (PV.agg [PV.v (Value.int IntKind.i64 a1_2.fst), PV.v (Value.int IntKind.i64 a1_2.snd)]) = D.p (eR (scalN l p y)) ∧ a0_0 = a0_0 ∧ a0_1 = a0_1)) ∧ (decide ((↑z : Int) < (↑l.length : Int)) = false → K a1_12 [O.box a1_12, O.box (D.p (eR (scalN l p z)))]))) (by kernel_rfl) ?_
 have hK : ∀ (q : Int × Int) (H : List O), q = scalarS l p → K (.p (eR q)) H := fun q H h => congrArg D.p (congrArg eR h)
 have fits_pre : Pure Tryz.prog 28 [eTs l, eI l.length] (vbool (l.all validS)) := by simpa using fits_ok l l.length hl
 simp only [Int.toNat_natCast, decide_eq_true_eq, decide_eq_false_iff_not, and_true]
 refine ⟨fits_pre, fun h => hK (0, 0) _ ?_, fun h => ⟨⟨0, by omega, rfl, rfl⟩, fun z hz => ⟨fun h1 => ⟨by omega, h1, fun h2 => ⟨by omega, h2, limited_ok _, value_ok _ _, mul_ok _ _ (scal_lt _ _ _) (value_lt _ _), z + 1, by omega, by omega, wr64 (by omega) (by omega) (by omega), ?_⟩, fun h2 => ⟨value_ok _ _, mul_ok _ _ (scal_lt _ _ _) (value_lt _ _), z + 1, by omega, by omega, wr64 (by omega) (by omega) (by omega), ?_⟩⟩, fun h1 => hK _ _ ?_⟩⟩⟩
 ·have h : l.all validS = false := by rw [Bool.not_eq_true'] at h; exact h
  rw [scalarS, h]; rfl
 ·show D.p (eR _) = D.p (eR _)
  simp only [scalN, atS, if_pos (show z < p.length by omega)]
 ·show D.p (eR _) = D.p (eR _)
  simp only [scalN, atS, if_neg (show ¬ z < p.length by omega)]
  rfl
 ·have : z = l.length := by omega
  subst this
  have h : l.all validS = true := by cases hb : l.all validS with
   | true => rfl
   | false => rw [hb] at h; cases h
  rw [scalarS, h]; rfl
end Go.Proofs.YtekhlnihpfkkkaaGreatDoor
namespace Go.Proofs.YtekhlnihpfkkkaaGreatDoor
open Go.Eng
abbrev Dl := List Tn × List (Int × Int)
def eMs (l : List (Int × Int)) : PV := eL eR 2 (0, 0) l
def eDl (d : Dl) : PV := .agg [eTs d.1, eMs d.2]
def weightS (d : Dl) (p : List Int) : Int := (roundS (IntKind.wrap .i64 (4096 * (scalarS d.1 p).1)) (scalarS d.1 p).2).1
def pcW (d : Dl) (p : List Int) : FuncId → List PV → Option D := fun f ar =>
 bif Nat.beq f 55 then some (.p (eR (scalarS d.1 p)))
 else bif Nat.beq f 32 then (match ar with
  | [.v (.int _ a), .v (.int _ b)] => some (.tup [vint .i64 (roundS a b).1, vbool (roundS a b).2])
  | _ => none)
 else none
def hWei (d : Dl) (p : List Int) : FuncId → FH := fun _ => { sp := List.range 100, reg := fun _ => { sh := none, g := 2 }, pc := pcW d p }
set_option maxRecDepth 100000 in
theorem weight_ok (d : Dl) (p : List Int) (hl : d.1.length < 2 ^ 40) (hp : p.length < 2 ^ 40) : Pure Tryz.prog 29 [eDl d, eIs p] (vint .i64 (weightS d p)) := by
 let K : KV := endP (vint .i64 (weightS d p))
 refine pure_by 6 (hWei d p) (p :=
  let a0_9 : List (Int × Int) := d.snd; let a0_8 : List Tn := d.fst; let a0_7 : Int × Int := scalarS a0_8 p; let a0_6 : Int := a0_7.snd; let a0_5 : Int := a0_7.fst; let a0_4 : List PV := [PV.v (Value.int IntKind.i64 a0_6)]; let a0_3 : Int := IntKind.i64.wrap ((4096 : Int) * a0_5); let a0_2 : PV := PV.lst 3 a0_8.length fun (i : Nat) => eT (a0_8.getD i tn0); let a0_1 : Int × Bool := roundS a0_3 a0_6; let a0_0 : Int := a0_1.fst; Eng.Pure Tryz.prog 55 [a0_2, PV.lst 1 p.length fun (i : Nat) => eI (p.getD i (0 : Int))] (D.p (eR a0_7)) ∧ Eng.Pure Tryz.prog 32 (PV.v (Value.int IntKind.i64 a0_3) :: a0_4) (D.tup [vint IntKind.i64 a0_0, vbool a0_1.snd]) ∧ K (D.p (PV.v (Value.int IntKind.i64 a0_0))) [O.box (D.p (PV.agg [a0_2, PV.lst 2 a0_9.length fun (i : Nat) => eR (a0_9.getD i ((0 : Int), (0 : Int)))])), O.box (D.p (PV.agg (PV.v (Value.int IntKind.i64 a0_5) :: a0_4)))]) (by kernel_rfl) ?_
 exact ⟨scalar_ok _ _ hl hp, round_ok _ _, rfl⟩
end Go.Proofs.YtekhlnihpfkkkaaGreatDoor
namespace Go.Proofs.YtekhlnihpfkkkaaGreatDoor
open Go.Eng
def off (o : List (List Pt)) : Nat → Nat
 | 0 => 0
 | k + 1 => off o k + (o.getD k []).length
def cnt (o : List (List Pt)) : Nat := off o o.length
def lCnt (b : Nat) (o : List (List Pt)) : Nat → Env → List O → Option LH := fun r E H =>
 bif Nat.beq r 2 then some (mkLH E H [0, 1, 8, 9] [b] (fun z : Nat => [(10, none, vint .i64 z), (3, none, vint .i64 (off o z))]) (fun z => [(b, .box (.p (eI (off o z))))]) (fun z => z ≤ o.length) (fun z => o.length - z))
 else bif Nat.beq r 5 then (match E.get 10 with
   | some (_, .p (.v (.int _ k))) => some (mkLH E H [0, 1, 8, 9, 10, 5, 14, 15] [b] (fun z : Nat => [(16, none, vint .i64 z), (3, none, vint .i64 (off o k.toNat + z : Nat))]) (fun z => [(b, .box (.p (eI (off o k.toNat + z : Nat))))]) (fun z => z ≤ (o.getD k.toNat []).length) (fun z => (o.getD k.toNat []).length - z))
   | _ => none) else none
def hCnt (b : Nat) (o : List (List Pt)) : FuncId → FH := fun f => bif Nat.beq f 60 then { sp := List.range 100, reg := fun _ => { sh := none, g := 2 }, lp := lCnt b o } else { sp := List.range 100, reg := fun _ => { sh := none, g := 2 } }
theorem off_le (o : List (List Pt)) {j k : Nat} (h : j ≤ k) : off o j ≤ off o k := by
 induction h with
 | refl => exact Nat.le_refl _
 | step _ ih => exact Nat.le_trans ih (by rw [off]; omega)
theorem off_lt {o : List (List Pt)} {z : Nat} (h : z < o.length) : off o z + (o.getD z []).length ≤ cnt o := off_le o (j := z + 1) h
set_option maxRecDepth 100000 in
theorem count_ok (o : List (List Pt)) (ho : o.length ≤ 2 ^ 40) (hc : cnt o ≤ 2 ^ 40) : Pure Tryz.prog 11 [eO o] (vint .i64 (cnt o)) := by
 let K : KV := endP (vint .i64 (cnt o))
 refine pure_by 12 (hCnt 0 o) (p :=
  let a0_7 : D := D.p (PV.lst 1 o.length fun (i : Nat) => eC (o.getD i [])); let a0_6 : O := O.box a0_7; let a0_5 : Nat × Option Bool × D := (0, none, D.own 2); let a0_4 : Nat × Option Bool × D := (1, none, D.ref 1 []); let a0_3 : List O := [a0_6, O.dead]; let a0_2 : Nat × Option Bool × D := (9, none, D.p (PV.v (Value.int IntKind.i64 (↑o.length : Int)))); let a0_1 : Nat × Option Bool × D := (8, none, a0_7); let a0_0 : List (Nat × Option Bool × D) := [a0_5, a0_4, a0_1, a0_2]; (∃ (x : Nat), x ≤ o.length ∧ Int.ofNat 0 = (↑x : Int) ∧ Int.ofNat 0 = (↑(off o x) : Int) ∧ D.p (PV.v (Value.int IntKind.i64 (0 : Int))) = D.p (eI (↑(off o x) : Int)) ∧ a0_0 = a0_0 ∧ a0_3 = a0_3) ∧ ∀ (z : Nat), let a1_7 : D := D.p (eI (↑(off o z) : Int)); let a1_6 : List Pt := o.getD (↑z : Int).toNat []; let a1_5 : Nat := a1_6.length; let a1_4 : Int := (↑a1_5 : Int); let a1_3 : Option Bool × D := (none, D.p (PV.lst 3 a1_5 fun (i : Nat) => ePt (a1_6.getD i pt0))); let a1_2 : List (Nat × Option Bool × D) := [(5, a1_3), (14, a1_3), (15, none, D.p (PV.v (Value.int IntKind.i64 a1_4)))]; let a1_1 : List (Nat × Option Bool × D) := a0_5 :: a0_4 :: a0_1 :: a0_2 :: (10, none, vint IntKind.i64 (↑z : Int)) :: a1_2; let a1_0 : List (Nat × Option Bool × D) := a0_5 :: a0_4 :: a0_1 :: a0_2 :: (10, none, D.p (PV.v (Value.int IntKind.i64 (↑z : Int)))) :: a1_2; z ≤ o.length → (decide ((↑z : Int) < (↑o.length : Int)) = true → (0 : Int) ≤ (↑z : Int) ∧ (↑z : Int) < (↑o.length : Int) ∧ (∃ (x : Nat), let a2_0 : Int := (↑(off o (↑z : Int).toNat + x) : Int); x ≤ a1_5 ∧ Int.ofNat 0 = (↑x : Int) ∧ (↑(off o z) : Int) = a2_0 ∧ a1_7 = D.p (eI a2_0) ∧ a1_0 = a1_1 ∧ a0_3 = a0_3) ∧ ∀ (z_1 : Nat), let a2_4 : Pt := a1_6.getD (↑z_1 : Int).toNat pt0; let a2_3 : Int × Bool := a2_4.snd; let a2_2 : Int := (↑(off o (↑z : Int).toNat + z_1) : Int); let a2_1 : Int := IntKind.i64.wrap (a2_2 + (1 : Int)); let a2_0 : D := D.p (PV.v (Value.int IntKind.i64 a2_1)); z_1 ≤ a1_5 → (decide ((↑z_1 : Int) < a1_4) = true → (0 : Int) ≤ (↑z_1 : Int) ∧ (↑z_1 : Int) < a1_4 ∧ ((!true) = true → K a2_0 [O.box a2_0, a0_6, O.dead, O.box (D.p (PV.agg [PV.v (Value.int IntKind.i64 a2_4.fst), PV.v (Value.int IntKind.i64 a2_3.fst), PV.v (Value.bool a2_3.snd)]))]) ∧ ((!true) = false → ∃ (y : Nat), let a3_0 : Int := (↑(off o (↑z : Int).toNat + y) : Int); y ≤ a1_5 ∧ a1_5 - y < a1_5 - z_1 ∧ IntKind.i64.wrap ((↑z_1 : Int) + (1 : Int)) = (↑y : Int) ∧ a2_1 = a3_0 ∧ a2_0 = D.p (eI a3_0) ∧ a1_0 = a1_1 ∧ a0_3 = a0_3)) ∧ (decide ((↑z_1 : Int) < a1_4) = false → ∃ (y : Nat), y ≤ o.length ∧ o.length - y < o.length - z ∧ IntKind.i64.wrap ((↑z : Int) + (1 : Int)) = (↑y : Int) ∧ a2_2 = (↑(off o y) : Int) ∧ D.p (eI a2_2) = D.p (eI (↑(off o y) : Int)) ∧ a0_0 = a0_0 ∧ a0_3 = a0_3)) ∧ (decide ((↑z : Int) < (↑o.length : Int)) = false → K (D.p (PV.v (Value.int IntKind.i64 (↑(off o z) : Int)))) (O.box a1_7 :: a0_3))) (by kernel_rfl) ?_
 simp only [Int.toNat_natCast, decide_eq_true_eq, decide_eq_false_iff_not, and_true, true_and]
 have hK : ∀ (q : Int) (H : List O), q = cnt o → K (vint .i64 q) H := fun q H h => h
 have hbe : ∀ a b : Int, a = b → D.p (.v (.int .i64 a)) = D.p (eI b) := fun a b h => congrArg (fun x => D.p (eI x)) h
 refine ⟨⟨0, by omega, rfl, rfl, rfl⟩, fun z hz => ⟨fun h1 => ⟨by omega, h1, ⟨0, by omega, rfl, rfl, rfl⟩, fun y hy => ⟨fun h2 => ⟨by omega, h2, fun h3 => by simp at h3, fun _ => ?_⟩, fun h2 => ?_⟩⟩, fun h1 => ?_⟩⟩
 ·have hz2 := off_lt (o := o) (z := z) (by omega)
  have e : IntKind.wrap .i64 (((off o z + y : Nat) : Int) + 1) = ((off o z + (y + 1) : Nat) : Int) := wr64 (by omega) (by omega) (by omega)
  exact ⟨y + 1, by omega, by omega, wr64 (by omega) (by omega) (by omega), e, hbe _ _ e⟩
 ·have e : ((off o z + y : Nat) : Int) = (off o (z + 1) : Nat) := by rw [off]; omega
  exact ⟨z + 1, by omega, by omega, wr64 (by omega) (by omega) (by omega), e, hbe _ _ e⟩
 ·have : z = o.length := by omega
  subst this; exact hK _ _ rfl
end Go.Proofs.YtekhlnihpfkkkaaGreatDoor
namespace Go.Proofs.YtekhlnihpfkkkaaGreatDoor
open Go.Eng
def dl0 : Dl := ([], [])
def eDls (l : List Dl) : PV := eL eDl 2 dl0 l
def wtS (ds : List Dl) (p : List Int) (k : Nat) : Int := weightS (ds.getD k dl0) p
def accX (ds : List Dl) (p : List Int) (n : Nat) : Nat → Int
 | 0 => 0
 | k + 1 => IntKind.wrap .i64 (accX ds p n k + IntKind.wrap .i64 (wtS ds p k * ((ds.getD k dl0).2.getD n (0, 0)).1))
def accY (ds : List Dl) (p : List Int) (n : Nat) : Nat → Int
 | 0 => 0
 | k + 1 => IntKind.wrap .i64 (accY ds p n k + IntKind.wrap .i64 (wtS ds p k * ((ds.getD k dl0).2.getD n (0, 0)).2))
def insP (ds : List Dl) (p : List Int) (n : Nat) (q : Pt) : Pt :=
 (IntKind.wrap .i64 (q.1 + (roundS (accX ds p n ds.length) 4096).1), IntKind.wrap .i64 (q.2.1 + (roundS (accY ds p n ds.length) 4096).1), q.2.2)
def insC (o : List (List Pt)) (ds : List Dl) (p : List Int) (k : Nat) (c : List Pt) : List Pt := c.mapIdx fun i q => insP ds p (off o k + i) q
def instS (o : List (List Pt)) (ds : List Dl) (p : List Int) : List (List Pt) := o.mapIdx fun k c => insC o ds p k c
def rowI (o : List (List Pt)) (ds : List Dl) (p : List Int) (k : Nat) : O := .arr 51 1 o.length fun j => if j < k then .p (eC (insC o ds p j (o.getD j []))) else .p (.v (.slice none 0 0))
def ptI (o : List (List Pt)) (ds : List Dl) (p : List Int) (k i : Nat) : O := .arr 53 3 (o.getD k []).length fun j => if j < i then .p (ePt (insP ds p (off o k + j) ((o.getD k []).getD j pt0))) else .p (ePt pt0)
def lchI (b : Nat) (o : List (List Pt)) (ds : List Dl) (p : List Int) : Nat → Env → List O → Option LH := fun r E H =>
 bif Nat.beq r 4 then some (mkLH E H [0, 1, 5, 14, 15] [b] (fun z : Nat => [(16, none, vint .i64 z), (6, none, vint .i64 (off o z))]) (fun z => [(b, rowI o ds p z)]) (fun z => z ≤ o.length) (fun z => o.length - z))
 else bif Nat.beq r 8 then (match E.get 16 with
   | some (_, .p (.v (.int _ k))) => some (mkLH E H [0, 1, 5, 14, 15, 16, 7, 25, 27, 28] [b + 1] (fun z : Nat => [(29, none, vint .i64 z), (6, none, vint .i64 (off o k.toNat + z : Nat))]) (fun z => [(b + 1, ptI o ds p k.toNat z)]) (fun z => z ≤ (o.getD k.toNat []).length) (fun z => (o.getD k.toNat []).length - z))
   | _ => none) else none
def lIns (ds : List Dl) (p : List Int) : Nat → Env → List O → Option LH := fun _ E H =>
 some (mkLH E H [0, 2, 4, 8, 9, 20, 21] [1] (fun z : Nat => [(22, none, vint .i64 z)]) (fun z => [(1, .arr 3 1 ds.length fun j => if j < z then vint .i64 (wtS ds p j) else vint .i64 0)]) (fun z => z ≤ ds.length) (fun z => ds.length - z))
def lClo (ds : List Dl) (p : List Int) : Nat → Env → List O → Option LH := fun _ E H =>
 match E.get 0 with
 | some (_, .p (.v (.int _ n))) => some (mkLH E H [0, 2, 3, 5, 6, 15, 16] [] (fun z : Nat => [(17, none, vint .i64 z), (7, none, vint .i64 (accX ds p n.toNat z)), (8, none, vint .i64 (accY ds p n.toNat z))]) (fun _ => []) (fun z => z ≤ ds.length) (fun z => ds.length - z))
 | _ => none
def pcI (o : List (List Pt)) (p : List Int) : FuncId → List PV → Option D := fun f ar =>
 bif Nat.beq f 11 then some (vint .i64 (cnt o))
 else bif Nat.beq f 28 then some (vbool true)
 else bif Nat.beq f 32 then (match ar with
  | [.v (.int _ a), .v (.int _ b)] => some (.tup [vint .i64 (roundS a b).1, vbool (roundS a b).2])
  | _ => none)
 else none
def peI (ds : List Dl) (p : List Int) : Env → FuncId → List PV → Option D := fun E f _ => bif Nat.beq f 29 then (match E.get 10 with
  | some (_, .p (.v (.int _ k))) => some (vint .i64 (wtS ds p k.toNat))
  | _ => none) else none
def reI (ds : List Dl) (p : List Int) : Env → Nat → RH → RH := fun E r R => bif Nat.beq r 5 || Nat.beq r 6 then (match E.get 9 with
  | some (_, .p (.v (.int _ k))) => { R with hs := [(4, vint .i64 (wtS ds p k.toNat))] }
  | _ => R) else R
def hIns (b : Nat) (o : List (List Pt)) (ds : List Dl) (p : List Int) : FuncId → FH := fun f =>
 bif Nat.beq f 30 then { sp := [17, 30], reg := rch b, lp := lchI b o ds p }
 else bif Nat.beq f 31 then { sp := List.range 100, reg := fun _ => { sh := none, g := 2 }, pc := pcI o p, re := reI ds p, lp := lClo ds p }
 else { sp := List.range 100, reg := fun _ => { sh := none, g := 2 }, pc := pcI o p, pe := peI ds p, lp := lIns ds p }
theorem frz_upd {A : Nat → PV} {B v : PV} {i k : Nat} (j : Nat) : (D.frz i v (upd (fun j => if j < k then .p (A j) else .p B) k (.own i) j)).getD (upd (fun j => if j < k then .p (A j) else .p B) k (.own i) j) = upd (fun j => if j < k then .p (A j) else .p B) k (.p v) j := by
 simp only [upd]
 by_cases h : j = k
 ·rw [if_pos h, if_pos h]; simp [D.frz]
 ·rw [if_neg h, if_neg h]; split <;> rfl
theorem getD_mapIdx_lt {α β : Type} {f : Nat → α → β} {l : List α} {j : Nat} {d : β} {e : α} (h : j < l.length) : (l.mapIdx f).getD j d = f j (l.getD j e) := by
 simp [List.getD, h]
theorem getD_mapIdx_ge {α β : Type} {f : Nat → α → β} {l : List α} {j : Nat} {d : β} (h : ¬ j < l.length) : (l.mapIdx f).getD j d = d := by
 simp [List.getD, h]
theorem pref_upd {A : Nat → D} {B d : D} {z : Nat} (h : d = A z) (j : Nat) : upd (fun j => if j < z then A j else B) z d j = if j < z + 1 then A j else B := by
 simp only [upd]
 by_cases hj : j = z
 ·subst hj; simp [h]
 ·simp only [if_neg hj, show j < z + 1 ↔ j < z from by omega]
theorem upd_ren {f : Nat → D} {d : D} {o : List (Nat × Nat)} {z : Nat} (h1 : ∀ i, (f i).ren o = some (f i)) (h2 : d.ren o = some d) (i : Nat) : D.ren o (upd f z d i) = some (upd f z d i) := by
 simp only [upd]
 split
 ·exact h2
 ·exact h1 i
set_option maxRecDepth 100000 in
theorem instance_ok (o : List (List Pt)) (ds : List Dl) (p : List Int) (ho : o.length ≤ 2 ^ 40) (hc : cnt o ≤ 2 ^ 40) (hd : ds.length ≤ 8) (hp : p.length < 2 ^ 40)
  (hf : ∀ k, k < ds.length → (ds.getD k dl0).1.length = p.length ∧ (ds.getD k dl0).1.all validS = true ∧ (ds.getD k dl0).2.length = cnt o) : Pure Tryz.prog 9 [eO o, eDls ds, eIs p] (.tup [.p (eO (instS o ds p)), vint .i64 0]) := by
 let K : KV := endP (.tup [.p (eO (instS o ds p)), vint .i64 0])
 refine pure_by 12 (hIns 3 o ds p) (p :=
  let a0_33 : D := D.ref 0 []; let a0_32 : Nat := (↑o.length : Int).toNat; let a0_31 : D := D.ref 2 []; let a0_30 : PV := PV.v (Value.int IntKind.i64 (0 : Int)); let a0_29 : D := D.p a0_30; let a0_28 : List O := [O.box (D.own 1)]; let a0_27 : List PV := [PV.v (Value.int IntKind.i64 (4096 : Int))]; let a0_26 : Int × Int := ((0 : Int), (0 : Int)); let a0_25 : Option Bool × D := (none, a0_31); let a0_24 : Option Bool × D := (none, a0_33); let a0_23 : D := D.p (PV.v (Value.slice none 0 0)); let a0_22 : Option Bool × D := (none, D.p (PV.v (Value.int IntKind.i64 (↑ds.length : Int)))); let a0_21 : D := D.p (PV.lst 2 ds.length fun (i : Nat) => eDl (ds.getD i dl0)); let a0_20 : O := O.box a0_21; let a0_19 : PV := PV.lst 1 o.length fun (i : Nat) => eC (o.getD i []); let a0_18 : Nat × Option Bool × D := (25, none, D.own 4); let a0_17 : Nat × Option Bool × D := (5, none, D.own 3); let a0_16 : Option Bool × D := (none, a0_21); let a0_15 : Option Bool × D := (none, D.p a0_19); let a0_14 : Nat × Option Bool × D := (15, none, D.p (PV.v (Value.int IntKind.i64 (↑o.length : Int)))); let a0_13 : D := D.p (PV.agg [a0_30, a0_30, PV.v (Value.bool false)]); let a0_12 : List (Nat × Nat) := numbered [0, 1, 2] 0; let a0_11 : List O := a0_20 :: a0_28; let a0_10 : D := D.tup [a0_23, D.p (PV.v (Value.int IntKind.i64 (Int.ofNat 12)))]; let a0_9 : List O := [O.box a0_13]; let a0_8 : List (Nat × Nat) := numbered [0, 1, 2, 3] 0; let a0_7 : Nat × Option Bool × D := (14, a0_15); let a0_6 : Nat × Option Bool × D := (0, a0_15); let a0_5 : List (Nat × Nat) := numbered [0, 1, 2, 3, 4] 0; let a0_4 : Nat × Option Bool × D := (1, none, D.fn 31 [] [a0_33, a0_31]); let a0_3 : List (Nat × Nat) := numbered [0, 1, 2, 3, 4, 5, 6, 7] 0; let a0_2 : List (Nat × Option Bool × D) := [(2, a0_24), (3, a0_25), (5, none, D.ref 6 []), (6, none, D.ref 7 []), (15, a0_16), (16, a0_22)]; let a0_1 : List (Nat × Option Bool × D) := [a0_6, a0_4, a0_17, a0_7, a0_14]; let a0_0 : List (Nat × Option Bool × D) := [(0, none, D.p (eO o)), (2, none, D.p (eIs p)), (4, a0_24), (8, none, D.p (PV.v (Value.int IntKind.i64 (↑(cnt o) : Int)))), (9, a0_25), (20, a0_16), (21, a0_22)]; (decide ((8 : Int) < (↑ds.length : Int)) = true → K (D.tup [a0_23, D.p (PV.v (Value.int IntKind.i64 (Int.ofNat 2)))]) [a0_20]) ∧ (decide ((8 : Int) < (↑ds.length : Int)) = false → Eng.Pure Tryz.prog 11 [a0_19] (vint IntKind.i64 (↑(cnt o) : Int)) ∧ (0 : Int) ≤ (↑ds.length : Int) ∧ (↑ds.length : Int) ≤ (↑ds.length : Int) ∧ (↑Tryz.prog.types[3].bytes : Int) * (↑ds.length : Int) ≤ (140737488355328 : Int) ∧ (↑ds.length : Int) ≤ (9223372036854775807 : Int) ∧ (∃ (x : Nat), x ≤ ds.length ∧ (∀ (i : Nat), i < (↑ds.length : Int).toNat → D.ren a0_12 a0_29 = some a0_29) ∧ Int.ofNat 0 = (↑x : Int) ∧ ((↑ds.length : Int).toNat = ds.length ∧ ∀ (j : Nat), j < (↑ds.length : Int).toNat → a0_29 = if j < x then vint IntKind.i64 (wtS ds p j) else vint IntKind.i64 (0 : Int)) ∧ a0_0 = a0_0 ∧ a0_11 = a0_11) ∧ ∀ (z : Nat), let a1_11 : Int := wtS ds p (↑z : Int).toNat; let a1_10 : Dl := ds.getD (↑z : Int).toNat dl0; let a1_9 : D := D.p (PV.v (Value.int IntKind.i64 a1_11)); let a1_8 : List Tn := a1_10.fst; let a1_7 : List (Int × Int) := a1_10.snd; let a1_6 : Nat := a1_7.length; let a1_5 : Int := (↑a1_6 : Int); let a1_4 : O := O.arr 3 1 ds.length fun (j : Nat) => if j < z then vint IntKind.i64 (wtS ds p j) else vint IntKind.i64 (0 : Int); let a1_3 : List O := a0_20 :: a1_4 :: a0_28; let a1_2 : PV := PV.lst 3 a1_8.length fun (i : Nat) => eT (a1_8.getD i tn0); let a1_1 : PV := PV.agg [a1_2, PV.lst 2 a1_6 fun (i : Nat) => eR (a1_7.getD i a0_26)]; let a1_0 : List O := [a0_20, a1_4, O.box (D.own 1), O.box (D.p a1_1)]; z ≤ ds.length → (decide ((↑z : Int) < (↑ds.length : Int)) = true → (0 : Int) ≤ (↑z : Int) ∧ (↑z : Int) < (↑ds.length : Int) ∧ Eng.Pure Tryz.prog 28 [a1_2, PV.v (Value.int IntKind.i64 (↑p.length : Int))] (vbool true) ∧ ((!!true) = true → ((a1_5 != (↑(cnt o) : Int)) = true → K a0_10 a1_0) ∧ ((a1_5 != (↑(cnt o) : Int)) = false → Eng.Pure Tryz.prog 29 [a1_1, PV.lst 1 p.length fun (i : Nat) => eI (p.getD i (0 : Int))] (vint IntKind.i64 a1_11) ∧ (0 : Int) ≤ (↑z : Int) ∧ (↑z : Int) < (↑ds.length : Int) ∧ (↑z : Int).toNat < ds.length ∧ ∃ (y : Nat), y ≤ ds.length ∧ ds.length - y < ds.length - z ∧ (∀ (i : Nat), let a3_0 : D := upd (fun (j : Nat) => if j < z then vint IntKind.i64 (wtS ds p j) else vint IntKind.i64 (0 : Int)) (↑z : Int).toNat a1_9 i; i < ds.length → D.ren a0_12 a3_0 = some a3_0) ∧ IntKind.i64.wrap ((↑z : Int) + (1 : Int)) = (↑y : Int) ∧ (ds.length = ds.length ∧ ∀ (j : Nat), j < ds.length → upd (fun (j : Nat) => if j < z then vint IntKind.i64 (wtS ds p j) else vint IntKind.i64 (0 : Int)) (↑z : Int).toNat a1_9 j = if j < y then vint IntKind.i64 (wtS ds p j) else vint IntKind.i64 (0 : Int)) ∧ a0_0 = a0_0 ∧ a0_11 = a0_11)) ∧ ((!!true) = false → K a0_10 a1_0)) ∧ (decide ((↑z : Int) < (↑ds.length : Int)) = false → (0 : Int) ≤ (↑o.length : Int) ∧ (↑o.length : Int) ≤ (↑o.length : Int) ∧ (↑Tryz.prog.types[51].bytes : Int) * (↑o.length : Int) ≤ (140737488355328 : Int) ∧ (↑o.length : Int) ≤ (9223372036854775807 : Int) ∧ (∃ (x : Nat), x ≤ o.length ∧ (∀ (i : Nat), let a3_0 : D := if i < z then vint IntKind.i64 (wtS ds p i) else vint IntKind.i64 (0 : Int); i < ds.length → D.ren a0_8 a3_0 = some a3_0) ∧ (∀ (i : Nat), i < a0_32 → D.ren a0_8 a0_23 = some a0_23) ∧ Int.ofNat 0 = (↑x : Int) ∧ Int.ofNat 0 = (↑(off o x) : Int) ∧ (a0_32 = o.length ∧ ∀ (j : Nat), j < a0_32 → a0_23 = if j < x then D.p (eC (insC o ds p j (o.getD j []))) else a0_23) ∧ a0_1 = a0_1 ∧ a1_3 = a1_3) ∧ ∀ (z_1 : Nat), let a2_8 : List Pt := o.getD (↑z_1 : Int).toNat []; let a2_7 : Nat := a2_8.length; let a2_6 : Option Bool × D := (none, D.p (PV.v (Value.int IntKind.i64 (↑z_1 : Int)))); let a2_5 : Int := (↑a2_7 : Int); let a2_4 : Nat := a2_5.toNat; let a2_3 : List O := [a0_20, a1_4, O.box (D.own 1), O.arr 51 1 o.length (upd (fun (j : Nat) => if j < z_1 then D.p (eC (insC o ds p j (o.getD j []))) else a0_23) (↑z_1 : Int).toNat (D.own 4))]; let a2_2 : List (Nat × Option Bool × D) := [(7, a2_6), a0_18, (27, none, D.p (PV.lst 3 a2_7 fun (i : Nat) => ePt (a2_8.getD i pt0))), (28, none, D.p (PV.v (Value.int IntKind.i64 a2_5)))]; let a2_1 : List (Nat × Option Bool × D) := a0_6 :: a0_4 :: a0_17 :: a0_7 :: a0_14 :: (16, none, vint IntKind.i64 (↑z_1 : Int)) :: a2_2; let a2_0 : List (Nat × Option Bool × D) := a0_6 :: a0_4 :: a0_17 :: a0_7 :: a0_14 :: (16, a2_6) :: a2_2; z_1 ≤ o.length → (decide ((↑z_1 : Int) < (↑o.length : Int)) = true → (0 : Int) ≤ (↑z_1 : Int) ∧ (↑z_1 : Int) < (↑o.length : Int) ∧ (0 : Int) ≤ a2_5 ∧ a2_5 ≤ a2_5 ∧ (↑Tryz.prog.types[53].bytes : Int) * a2_5 ≤ (140737488355328 : Int) ∧ a2_5 ≤ (9223372036854775807 : Int) ∧ (0 : Int) ≤ (↑z_1 : Int) ∧ (↑z_1 : Int) < (↑o.length : Int) ∧ (↑z_1 : Int).toNat < o.length ∧ (∃ (x : Nat), x ≤ a2_7 ∧ (∀ (i : Nat), let a4_0 : D := if i < z then vint IntKind.i64 (wtS ds p i) else vint IntKind.i64 (0 : Int); i < ds.length → D.ren a0_5 a4_0 = some a4_0) ∧ (∀ (i : Nat), let a4_0 : D := upd (fun (j : Nat) => if j < z_1 then D.p (eC (insC o ds p j (o.getD j []))) else a0_23) (↑z_1 : Int).toNat (D.own 4) i; i < o.length → D.ren a0_5 a4_0 = some a4_0) ∧ (∀ (i : Nat), i < a2_4 → D.ren a0_5 a0_13 = some a0_13) ∧ Int.ofNat 0 = (↑x : Int) ∧ (↑(off o z_1) : Int) = (↑(off o (↑z_1 : Int).toNat + x) : Int) ∧ (a2_4 = a2_7 ∧ ∀ (j : Nat), j < a2_4 → a0_13 = if j < x then D.p (ePt (insP ds p (off o (↑z_1 : Int).toNat + j) (a2_8.getD j pt0))) else D.p (ePt pt0)) ∧ a2_0 = a2_1 ∧ a2_3 = a2_3) ∧ ∀ (z_2 : Nat), let a3_10 : Pt := a2_8.getD (↑z_2 : Int).toNat pt0; let a3_9 : Int := a3_10.fst; let a3_8 : Int × Bool := a3_10.snd; let a3_7 : Int := a3_8.fst; let a3_6 : Int := (↑(off o (↑z_1 : Int).toNat + z_2) : Int); let a3_5 : Nat := a3_6.toNat; let a3_4 : List PV := [PV.v (Value.bool a3_8.snd)]; let a3_3 : PV := PV.lst 3 a2_7 fun (j : Nat) => (if j < z_2 then D.p (ePt (insP ds p (off o (↑z_1 : Int).toNat + j) (a2_8.getD j pt0))) else D.p (ePt pt0)).unP; let a3_2 : List (Nat × Option Bool × D) := (0, none, D.p (PV.v (Value.int IntKind.i64 a3_6))) :: a0_2; let a3_1 : O := O.box (D.p (PV.agg (PV.v (Value.int IntKind.i64 a3_9) :: PV.v (Value.int IntKind.i64 a3_7) :: a3_4))); let a3_0 : List O := a0_20 :: a1_4 :: O.box (D.own 1) :: O.dead :: (O.arr 53 3 a2_7 fun (j : Nat) => if j < z_2 then D.p (ePt (insP ds p (off o (↑z_1 : Int).toNat + j) (a2_8.getD j pt0))) else D.p (ePt pt0)) :: a3_1 :: a3_1 :: a0_9; z_2 ≤ a2_7 → (decide ((↑z_2 : Int) < a2_5) = true → (0 : Int) ≤ (↑z_2 : Int) ∧ (↑z_2 : Int) < a2_5 ∧ (0 : Int) ≤ (↑z_1 : Int) ∧ (↑z_1 : Int) < (↑o.length : Int) ∧ Decidable.rec (fun (h : ¬(↑z_1 : Int).toNat = (↑z_1 : Int).toNat) => if (↑z_1 : Int).toNat < z_1 then D.p (eC (insC o ds p (↑z_1 : Int).toNat a2_8)) else a0_23) (fun (h : (↑z_1 : Int).toNat = (↑z_1 : Int).toNat) => D.own 4) (instDecidableEqNat (↑z_1 : Int).toNat (↑z_1 : Int).toNat) = D.own 4 ∧ (↑z_1 : Int).toNat < o.length ∧ D.own 4 = D.own 4 ∧ (∃ (x : Nat), x ≤ ds.length ∧ (∀ (i : Nat), let a5_0 : D := if i < z then vint IntKind.i64 (wtS ds p i) else vint IntKind.i64 (0 : Int); i < ds.length → D.ren a0_3 a5_0 = some a5_0) ∧ (∀ (i : Nat), let a5_0 : D := if i < z_2 then D.p (ePt (insP ds p (off o (↑z_1 : Int).toNat + i) (a2_8.getD i pt0))) else D.p (ePt pt0); i < a2_7 → D.ren a0_3 a5_0 = some a5_0) ∧ Int.ofNat 0 = (↑x : Int) ∧ Int.ofNat 0 = accX ds p a3_5 x ∧ Int.ofNat 0 = accY ds p a3_5 x ∧ a3_2 = a3_2 ∧ a3_0 = a3_0) ∧ ∀ (z_3 : Nat), let a4_10 : Int := wtS ds p (↑z_3 : Int).toNat; let a4_9 : D := vint IntKind.i64 a4_10; let a4_8 : Int × Bool := roundS (accX ds p a3_5 z_3) (4096 : Int); let a4_7 : Int × Bool := roundS (accY ds p a3_5 z_3) (4096 : Int); let a4_6 : Int := a4_7.fst; let a4_5 : Int := a4_8.fst; let a4_4 : List (Int × Int) := (ds.getD (↑z_3 : Int).toNat dl0).snd; let a4_3 : Int × Int := a4_4.getD a3_5 a0_26; let a4_2 : Int := (↑a4_4.length : Int); let a4_1 : D := D.p (PV.agg (PV.v (Value.int IntKind.i64 (IntKind.i64.wrap (a3_9 + a4_5))) :: PV.v (Value.int IntKind.i64 (IntKind.i64.wrap (a3_7 + a4_6))) :: a3_4)); let a4_0 : D := Decidable.rec (fun (h : ¬(↑z_3 : Int).toNat < z) => vint IntKind.i64 (0 : Int)) (fun (h : (↑z_3 : Int).toNat < z) => a4_9) ((↑z_3 : Int).toNat.decLt z); z_3 ≤ ds.length → (decide ((↑z_3 : Int) < (↑ds.length : Int)) = true → (0 : Int) ≤ (↑z_3 : Int) ∧ (↑z_3 : Int) < (↑ds.length : Int) ∧ (0 : Int) ≤ (↑z_3 : Int) ∧ (↑z_3 : Int) < (↑ds.length : Int) ∧ a4_0 = a4_9 ∧ (↑z_3 : Int).toNat < ds.length ∧ a4_10 = a4_10 ∧ (0 : Int) ≤ a3_6 ∧ a3_6 < a4_2 ∧ (0 : Int) ≤ (↑z_3 : Int) ∧ (↑z_3 : Int) < (↑ds.length : Int) ∧ a4_0 = a4_9 ∧ (↑z_3 : Int).toNat < ds.length ∧ a4_10 = a4_10 ∧ (0 : Int) ≤ a3_6 ∧ a3_6 < a4_2 ∧ ∃ (y : Nat), y ≤ ds.length ∧ ds.length - y < ds.length - z_3 ∧ (∀ (i : Nat), let a6_0 : D := if i < z then vint IntKind.i64 (wtS ds p i) else vint IntKind.i64 (0 : Int); i < ds.length → D.ren a0_3 a6_0 = some a6_0) ∧ (∀ (i : Nat), let a6_0 : D := if i < z_2 then D.p (ePt (insP ds p (off o (↑z_1 : Int).toNat + i) (a2_8.getD i pt0))) else D.p (ePt pt0); i < a2_7 → D.ren a0_3 a6_0 = some a6_0) ∧ IntKind.i64.wrap ((↑z_3 : Int) + (1 : Int)) = (↑y : Int) ∧ IntKind.i64.wrap (accX ds p a3_5 z_3 + IntKind.i64.wrap (a4_10 * a4_3.fst)) = accX ds p a3_5 y ∧ IntKind.i64.wrap (accY ds p a3_5 z_3 + IntKind.i64.wrap (a4_10 * a4_3.snd)) = accY ds p a3_5 y ∧ a3_2 = a3_2 ∧ a3_0 = a3_0) ∧ (decide ((↑z_3 : Int) < (↑ds.length : Int)) = false → Eng.Pure Tryz.prog 32 (PV.v (Value.int IntKind.i64 (accX ds p a3_5 z_3)) :: a0_27) (D.tup [vint IntKind.i64 a4_5, vbool a4_8.snd]) ∧ Eng.Pure Tryz.prog 32 (PV.v (Value.int IntKind.i64 (accY ds p a3_5 z_3)) :: a0_27) (D.tup [vint IntKind.i64 a4_6, vbool a4_7.snd]) ∧ (0 : Int) ≤ (↑z_2 : Int) ∧ (↑z_2 : Int) < a2_5 ∧ (↑z_2 : Int).toNat < a2_7 ∧ ∃ (y : Nat), y ≤ a2_7 ∧ a2_7 - y < a2_7 - z_2 ∧ (∀ (i : Nat), let a6_0 : D := if i < z then vint IntKind.i64 (wtS ds p i) else vint IntKind.i64 (0 : Int); i < ds.length → D.ren a0_5 a6_0 = some a6_0) ∧ (∀ (i : Nat), let a6_0 : D := upd (fun (j : Nat) => if j < z_1 then D.p (eC (insC o ds p j (o.getD j []))) else a0_23) (↑z_1 : Int).toNat (D.own 4) i; i < o.length → D.ren a0_5 a6_0 = some a6_0) ∧ (∀ (i : Nat), let a6_0 : D := upd (fun (j : Nat) => if j < z_2 then D.p (ePt (insP ds p (off o (↑z_1 : Int).toNat + j) (a2_8.getD j pt0))) else D.p (ePt pt0)) (↑z_2 : Int).toNat a4_1 i; i < a2_7 → D.ren a0_5 a6_0 = some a6_0) ∧ IntKind.i64.wrap ((↑z_2 : Int) + (1 : Int)) = (↑y : Int) ∧ IntKind.i64.wrap (a3_6 + (1 : Int)) = (↑(off o (↑z_1 : Int).toNat + y) : Int) ∧ (a2_7 = a2_7 ∧ ∀ (j : Nat), j < a2_7 → upd (fun (j : Nat) => if j < z_2 then D.p (ePt (insP ds p (off o (↑z_1 : Int).toNat + j) (a2_8.getD j pt0))) else D.p (ePt pt0)) (↑z_2 : Int).toNat a4_1 j = if j < y then D.p (ePt (insP ds p (off o (↑z_1 : Int).toNat + j) (a2_8.getD j pt0))) else D.p (ePt pt0)) ∧ a2_0 = a2_1 ∧ a2_3 = a2_3)) ∧ (decide ((↑z_2 : Int) < a2_5) = false → (∀ (j : Nat), let a4_0 : D := if j < z_2 then D.p (ePt (insP ds p (off o (↑z_1 : Int).toNat + j) (a2_8.getD j pt0))) else D.p (ePt pt0); j < a2_7 → a4_0 = D.p a4_0.unP) ∧ ∃ (y : Nat), y ≤ o.length ∧ o.length - y < o.length - z_1 ∧ (∀ (i : Nat), let a5_0 : D := if i < z then vint IntKind.i64 (wtS ds p i) else vint IntKind.i64 (0 : Int); i < ds.length → D.ren a0_8 a5_0 = some a5_0) ∧ (∀ (i : Nat), let a5_1 : D := upd (fun (j : Nat) => if j < z_1 then D.p (eC (insC o ds p j (o.getD j []))) else a0_23) (↑z_1 : Int).toNat (D.own 4) i; let a5_0 : D := (D.frz 4 a3_3 a5_1).getD a5_1; i < o.length → D.ren a0_8 a5_0 = some a5_0) ∧ IntKind.i64.wrap ((↑z_1 : Int) + (1 : Int)) = (↑y : Int) ∧ a3_6 = (↑(off o y) : Int) ∧ (o.length = o.length ∧ ∀ (j : Nat), let a5_0 : D := upd (fun (j : Nat) => if j < z_1 then D.p (eC (insC o ds p j (o.getD j []))) else a0_23) (↑z_1 : Int).toNat (D.own 4) j; j < o.length → (D.frz 4 a3_3 a5_0).getD a5_0 = if j < y then D.p (eC (insC o ds p j (o.getD j []))) else a0_23) ∧ a0_1 = a0_1 ∧ a1_3 = a1_3)) ∧ (decide ((↑z_1 : Int) < (↑o.length : Int)) = false → (∀ (j : Nat), let a3_0 : D := if j < z_1 then D.p (eC (insC o ds p j (o.getD j []))) else a0_23; j < o.length → a3_0 = D.p a3_0.unP) ∧ K (D.tup [D.p (PV.lst 1 o.length fun (j : Nat) => (if j < z_1 then D.p (eC (insC o ds p j (o.getD j []))) else a0_23).unP), D.p (PV.v (Value.int IntKind.i64 (Int.ofNat 0)))]) [a0_20, a1_4, O.box (D.own 1), O.dead])))) (by kernel_rfl) ?_
 have e1 : (Tryz.prog.types[51]).bytes = 24 := by kernel_rfl
 have e2 : (Tryz.prog.types[53]).bytes = 24 := by kernel_rfl
 have e3 : (Tryz.prog.types[3]).bytes = 8 := by kernel_rfl
 have hw : ∀ k : Nat, k < 2 ^ 40 → IntKind.wrap .i64 ((k : Int) + 1) = ((k + 1 : Nat) : Int) := fun k hk => wr64 (by omega) (by omega) (by omega)
 have hr : ∀ (l : List Nat) (z i : Nat), D.ren (numbered l 0) (if i < z then vint IntKind.i64 (wtS ds p i) else vint IntKind.i64 0) = some (if i < z then vint IntKind.i64 (wtS ds p i) else vint IntKind.i64 0) := fun l z i => by split <;> rfl
 have hK : ∀ (q : PV) (H : List O), endP (.p (eO (instS o ds p))) (.p q) [] → K (.tup [.p q, vint .i64 0]) H := fun q H h => ⟨h, rfl, trivial⟩
 simp only [e1, e2, e3, Int.toNat_natCast, decide_eq_true_eq, decide_eq_false_iff_not, and_true, true_and]
 refine ⟨fun h => by omega, fun _ => ⟨count_ok o ho hc, by omega, by omega, by omega, by omega, ⟨0, by omega, fun _ _ => rfl, rfl, fun j _ => by simp⟩, fun z hz => ⟨fun h1 => ?_, fun h1 => ?_⟩⟩⟩
 ·obtain ⟨f1, f2, f3⟩ := hf z (by omega)
  have hfit := fits_ok (ds.getD z dl0).1 p.length (by omega)
  rw [show (decide (((ds.getD z dl0).1.length : Int) = p.length) && (ds.getD z dl0).1.all validS) = true by rw [f2, f1]; simp] at hfit
  refine ⟨by omega, h1, hfit, fun _ => ⟨fun h => by rw [f3] at h; simp at h, fun _ => ⟨weight_ok _ _ (by omega) hp, by omega, h1, by omega, z + 1, by omega, by omega, fun i _ => ?_, hw _ (by omega), fun j _ => ?_⟩⟩, fun h => by simp at h⟩
  ·simp only [upd]; split
   ·rfl
   ·exact hr _ _ _
  ·simp only [upd]
   by_cases h : j = z
   ·subst h; simp
   ·simp only [if_neg h, show j < z + 1 ↔ j < z from by omega]
 ·have hz2 : z = ds.length := by omega
  subst hz2
  refine ⟨by omega, by omega, by omega, by omega, ⟨0, by omega, fun i _ => hr _ _ _, fun _ _ => rfl, rfl, rfl, fun j _ => by simp⟩, fun k hk => ⟨fun h2 => ?_, fun h2 => ?_⟩⟩
  ·have hk1 := off_lt (o := o) (z := k) (by omega)
   refine ⟨by omega, h2, by omega, by omega, by omega, by omega, by omega, h2, by omega, ⟨0, by omega, fun i _ => hr _ _ _, fun i _ => ?_, fun _ _ => rfl, rfl, by omega, fun j _ => by simp; rfl⟩, fun y hy => ⟨fun h3 => ?_, fun h3 => ?_⟩⟩
   ·simp only [upd]; split <;> first | rfl | (split <;> rfl)
   ·refine ⟨by omega, h3, by omega, h2, if_pos (c := k = k) rfl, by omega, ⟨0, by omega, fun i _ => hr _ _ _, fun i _ => by split <;> rfl, rfl, rfl, rfl⟩, fun v hv => ⟨fun h4 => ?_, fun h4 => ?_⟩⟩
    ·obtain ⟨f1, f2, f3⟩ := hf v (by omega)
     have hl : (v < ds.length) = True := by simp; omega
     refine ⟨by omega, h4, by omega, h4, if_pos (c := v < ds.length) (by omega), by omega, by omega, by rw [f3]; omega, by omega, h4, if_pos (c := v < ds.length) (by omega), by omega, by omega, by rw [f3]; omega,
      v + 1, by omega, by omega, fun i _ => hr _ _ _, fun i _ => by split <;> rfl, hw _ (by omega), rfl, rfl⟩
    ·have hv2 : v = ds.length := by omega
     subst hv2
     refine ⟨round_ok _ _, round_ok _ _, by omega, h3, by omega, y + 1, by omega, by omega, fun i _ => hr _ _ _, fun i _ => ?_, fun i _ => ?_, hw _ (by omega), ?_, fun j _ => ?_⟩
     ·exact upd_ren (fun i => by split <;> rfl) rfl i
     ·exact upd_ren (fun i => by split <;> rfl) rfl i
     ·have := hw (off o k + y) (by omega)
      rw [this]; omega
     ·exact pref_upd (A := fun j => D.p (ePt (insP ds p (off o k + j) ((o.getD k []).getD j pt0)))) rfl j
   ·have hy2 : y = (o.getD k []).length := by omega
    refine ⟨fun j _ => by split <;> rfl, k + 1, by omega, by omega, fun i _ => hr _ _ _, fun i _ => ?_, hw _ (by omega), by rw [off]; omega, fun j _ => ?_⟩
    ·simp only [eC, eL, frz_upd]
     exact upd_ren (fun i => by split <;> rfl) rfl i
    ·simp only [eC, eL, frz_upd]
     refine pref_upd (A := fun j => D.p (eC (insC o ds p j (o.getD j [])))) ?_ j
     show D.p (PV.lst 3 _ _) = D.p (PV.lst 3 _ _)
     rw [hy2, insC, List.length_mapIdx]
     congr 2
     funext j
     by_cases hj : j < (o.getD k []).length
     ·rw [if_pos hj, getD_mapIdx_lt hj]; rfl
     ·rw [if_neg hj, getD_mapIdx_ge hj]; rfl
  ·have hk2 : k = o.length := by omega
   refine ⟨fun j _ => by split <;> rfl, ?_⟩
   refine hK _ _ (endP_lst (H := []) (by simp [instS]) fun j hj => ?_)
   rw [if_pos (by omega), instS, getD_mapIdx_lt hj]
   rfl
end Go.Proofs.YtekhlnihpfkkkaaGreatDoor
namespace Go.Eng
mutual
theorem leP_refl : ∀ x : PV, leP x x
 | .agg l => by simp only [leP]; exact leQ_refl l
 | .lst sz n f => by simp only [leP, if_true, true_and]; exact fun j _ => leP_refl (f j)
 | .v a => by
  unfold leP
  split
  ·rename_i h1 _; cases h1
  ·rename_i h1 h2; cases h2
  ·rename_i h1 _; cases h1
  ·rfl
 | .s a => (rfl : PV.s a = .s a)
 | .vec a b f => (rfl : PV.vec a b f = .vec a b f)
 | .pel a => (rfl : PV.pel a = .pel a)
theorem leQ_refl : ∀ l : List PV, leQ l l
 | [] => by simp [leQ]
 | x :: l => by simp only [leQ]; exact ⟨leP_refl x, leQ_refl l⟩
end
theorem leP_eq {x y : PV} (h : x = y) : leP x y := h ▸ leP_refl x
def endM (x1 : PV) (res : D) : KV := fun d H => match d.ren [], H with
 | some d', .box (.p y) :: _ => leT d' res ∧ leP y x1
 | _, _ => Stuck 0 0 8001
theorem mut_of_W {P : Program} {f : FuncId} {x0 : PV} {args : List PV} {x1 : PV} {res : D} (n : Nat) (h : FuncId → FH) (hw : WCall P 1 h n [] 0 f (.ref 0 [] :: args.map .p) [.box (.p x0)] (endM x1 res)) : Mut P f x0 args x1 res := by
 intro F w b T c0 vs hsub hglob hFb hcell hx0 hlen hrel
 let g : Value := .pointer (some ⟨b, 0, none⟩)
 let γ : Gm := fun i => if i = 0 then some g else none
 have hbl : b < w.heap.size := (Array.getElem?_eq_some_iff.1 hcell).1
 have gi : ∀ {i : Nat} {x : Value}, γ i = some x → i = 0 ∧ x = g := fun {i x} hi => by
  simp only [γ] at hi
  split at hi
  ·rename_i e; cases hi; exact ⟨e, rfl⟩
  ·cases hi
 have hS : SLH ⟨P, w, F, [g], 0, .top, noR, []⟩ F γ [.box (.p x0)] w := by
  exact {
   sub := hsub
   base := trivial
   glob := hglob
   ext := fun _ _ => rfl
   top := fun i hi => by
    have hi : 1 ≤ i := by simpa using hi
    simp only [γ]
    rw [if_neg (by omega)]
   free := fun i hi => by
    cases i with
    | zero => cases hi
    | succ i => simp at hi
   obj := fun i o x ho hx => by
    obtain ⟨rfl, rfl⟩ := gi hx
    simp only [List.getElem?_cons_zero, Option.some.injEq] at ho
    subst ho
    exact .box hcell (.p hx0)
   apart := fun i o x b' ho ha hx hb' => by
    obtain ⟨rfl, rfl⟩ := gi hx
    simp only [g, blk, Option.some.injEq] at hb'
    subst hb'
    exact ⟨hFb, hbl, fun hlt => by simp at hlt⟩
   given := fun i hi => by
    have : i = 0 := by simp at hi; exact hi
    subst this
    rfl
   dis := fun i j o o' x x' b' _ _ hij _ _ hx hx' => by
    obtain ⟨rfl, _⟩ := gi hx
    obtain ⟨rfl, _⟩ := gi hx'
    exact absurd rfl hij
   os := rfl
   tape := rfl
   output := rfl
   grows := Nat.le_refl _
   block := fun _ _ _ => rfl
   raw := fun _ _ h => (by cases h)
   live := fun i o h _ => by cases i with | zero => exact ⟨g, rfl⟩ | succ i => simp at h }
 refine WCall_sound P 1 h n ⟨P, w, F, [g], 0, .top, noR, []⟩ [] rfl rfl YOK.nil f (.ref 0 [] :: args.map .p) [.box (.p x0)] _ hw F γ w (g :: vs) hS (by simp [hlen]) (fun i d v hd hv => ?_) _ ?_
 ·cases i with
  | zero =>
   simp only [List.getElem?_cons_zero, Option.some.injEq] at hd hv
   subst hd hv
   exact .one rfl (.ref (g := g) (b := b) (by simp [γ]) rfl)
  | succ i =>
   simp only [List.getElem?_cons_succ, List.getElem?_map, Option.map_eq_some_iff] at hd hv
   obtain ⟨p, hp, rfl⟩ := hd
   exact (hrel i p v hp hv).mono (fun _ _ x => x) (fun i x hx => by cases hx)
 ·intro d H' v F' γ' w' hK k1 k2 _ _
  unfold endM at hK
  split at hK
  ·rename_i d' y H2 h1
   have g0 : γ' 0 = some g := k1.given 0 (by simp)
   have ho : RelO F' γ' w' (.box (.p y)) (.pointer (some ⟨b, 0, none⟩)) := k1.obj 0 (.box (.p y)) g rfl g0
   cases ho with
   | @box _ _ c' T' q1 q2 =>
    cases q2 with
    | p q2 =>
     refine ⟨v, F', c', T', rfl, k1.sub, k1.ext, q1, leP_rel hK.2 q2, leT_rel hK.1 (ren_relV (fun i k h => by cases h) h1 k2), k1.os, k1.tape, k1.output, k1.grows, fun k hk hkb => k1.block k hk fun x hx => ?_⟩
     simp only [List.mem_singleton] at hx
     subst hx
     simp only [g, blk, ne_eq, Option.some.injEq]
     exact fun e => hkb e.symm
  ·exact Stuck.elim hK
theorem mut_by {P : Program} {f : FuncId} {x0 : PV} {args : List PV} {x1 : PV} {res : D} {p : Prop} (n : Nat) (h : FuncId → FH) (e : p = WCall P 1 h n [] 0 f (.ref 0 [] :: args.map .p) [.box (.p x0)] (endM x1 res)) (hp : p) : Mut P f x0 args x1 res :=
 mut_of_W n h (e ▸ hp)
end Go.Eng
namespace Go.Proofs.YtekhlnihpfkkkaaGreatDoor
open Go.Eng
def eDr (L : List Int) (k : Int) : PV := .agg [eIs L, eI k]
def nxK (m : Nat) (k : Int) : Int := if k < m then k + 1 else k
def nxV (m : Nat) (k a n : Int) : Int := if k < m then a % n else 0
def hNxt : FuncId → FH := fun _ => { sp := List.range 100, reg := fun _ => { sh := none, g := 2 } }
theorem mod_eq {a n : Int} (h0 : 0 < n) (h1 : n < 2 ^ 40) : Int.tmod (IntKind.wrap .i64 (Int.tmod a n + n)) n = a % n := by
 have b1 : Int.tmod a n < n := Int.tmod_lt_of_pos a h0
 have b2 : -n < Int.tmod a n := by
  have := Int.tmod_lt_of_pos (-a) h0
  rw [Int.neg_tmod] at this; omega
 have e2 : IntKind.wrap .i64 (Int.tmod a n + n) = Int.tmod a n + n := wr64 (by omega) (by omega) rfl
 rw [e2]
 have h3 : 0 ≤ Int.tmod a n + n := by omega
 rw [Int.tmod_eq_emod_of_nonneg h3, Int.add_emod_right, Int.tmod_eq_emod]
 split
 ·simp
 ·rw [Int.natAbs_of_nonneg (by omega), Int.sub_emod_right, Int.emod_emod]
theorem nxb {m : Nat} {k : Int} (h : 0 ≤ k ∧ k ≤ m) : 0 ≤ nxK m k ∧ nxK m k ≤ m := by
 simp only [nxK]; split <;> omega
theorem nxV_lt {m : Nat} {k a n : Int} (h : 0 < n) : 0 ≤ nxV m k a n ∧ nxV m k a n < n := by
 simp only [nxV]
 split
 ·exact ⟨Int.emod_nonneg a (by omega), Int.emod_lt_of_pos a h⟩
 ·omega
set_option maxRecDepth 100000 in
theorem next_ok (L : List Int) (k n : Int) (hk : 0 ≤ k ∧ k ≤ L.length) (hL : L.length < 2 ^ 40) (h0 : 0 < n) (h1 : n < 2 ^ 40) : Mut Tryz.prog 20 (eDr L k) [eI n] (eDr L (nxK L.length k)) (vint .i64 (nxV L.length k (L.getD k.toNat 0) n)) := by
 let K : KV := endM (eDr L (nxK L.length k)) (vint .i64 (nxV L.length k (L.getD k.toNat 0) n))
 refine mut_by 20 hNxt (p :=
  let a0_1 : Int := IntKind.i64.wrap (k + (1 : Int)); let a0_0 : Int := IntKind.i64.wrap (a0_1 - (1 : Int)); (decide ((↑L.length : Int) ≤ k) = true → K (D.p (PV.v (Value.int IntKind.i64 (Int.ofNat 0)))) [O.box (D.p (eDr L k))]) ∧ (decide ((↑L.length : Int) ≤ k) = false → (0 : Int) ≤ a0_0 ∧ a0_0 < (↑L.length : Int) ∧ (n = (0 : Int) → False) ∧ (n = (0 : Int) → False) ∧ K (D.p (PV.v (Value.int IntKind.i64 ((IntKind.i64.wrap ((L.getD a0_0.toNat (0 : Int)).tmod n + n)).tmod n)))) [O.box (D.p (PV.agg [PV.lst 1 L.length fun (i : Nat) => eI (L.getD i (0 : Int)), PV.v (Value.int IntKind.i64 a0_1)]))])) (by kernel_rfl) ?_
 have e1 : k < L.length → IntKind.wrap .i64 (k + 1) = k + 1 := fun h => wr64 (by omega) (by omega) rfl
 have e2 : k < L.length → IntKind.wrap .i64 (IntKind.wrap .i64 (k + 1) - 1) = k := fun h => by rw [e1 h]; exact wr64 (by omega) (by omega) (by omega)
 have hK : ∀ (v q : Int), v = nxV L.length k (L.getD k.toNat 0) n → q = nxK L.length k → K (vint .i64 v) [.box (.p (eDr L q))] := fun v q h1 h2 => ⟨leP_eq (congrArg eI h1), leP_eq (congrArg (eDr L) h2)⟩
 refine ⟨fun h => hK _ _ ?_ ?_, fun h => ?_⟩
 ·simp only [decide_eq_true_eq] at h
  rw [nxV, if_neg (by omega)]; rfl
 ·simp only [decide_eq_true_eq] at h
  rw [nxK, if_neg (by omega)]
 ·simp only [decide_eq_false_iff_not] at h
  have hk2 : k < L.length := by omega
  refine ⟨by rw [e2 hk2]; omega, by rw [e2 hk2]; omega, fun h => by omega, fun h => by omega, hK _ _ ?_ ?_⟩
  ·rw [e2 hk2, mod_eq h0 h1, nxV, if_pos hk2]
  ·rw [e1 hk2, nxK, if_pos hk2]
end Go.Proofs.YtekhlnihpfkkkaaGreatDoor
namespace Go.Proofs.YtekhlnihpfkkkaaGreatDoor
open Go.Eng
def pmN : Env → FuncId → PV → List PV → Option (PV × D) := fun _ f x ar => bif Nat.beq f 20 then (match x, ar with
  | .agg [.lst _ m g, .v (.int _ k)], [.v (.int _ n)] => (match g k.toNat with
   | .v (.int _ a) => some (.agg [.lst 1 m g, eI (nxK m k)], vint .i64 (nxV m k a n))
   | _ => none)
  | _, _ => none) else none
def hHnt : FuncId → FH := fun _ => { sp := List.range 100, pm := pmN, reg := fun _ => { sh := none, g := 2 }, za := List.range 20, fr := (List.range 20).map (1000 + ·) }
def n1 (L : List Int) (k : Int) : Int := nxK L.length k
def v1 (L : List Int) (k n : Int) : Int := nxV L.length k (L.getD k.toNat 0) n
def hintM (L : List Int) (k : Int) : Nat × Nat := ((v1 L (n1 L k) 4).toNat, (v1 L k 3).toNat)
def hpM (h : Nat × Nat) : List Tn := match h.1 with
 | 1 => [(10, h.2, 0), (8, 0, 0), (12, h.2, 0)]
 | 2 => [(9, 0, 0), (1, 8, 0), (3, 0, 0), (14, 3, 0), (11, h.2, 0), (8, 0, 0), (13, h.2, 0)]
 | 3 => [(15, 2, 4), (11, h.2, 0), (1, 16, 0), (2, 0, 0), (13, h.2, 0)]
 | _ => []
set_option maxRecDepth 100000 in
theorem hint_ok (L : List Int) (k : Int) (hk : 0 ≤ k ∧ k ≤ L.length) (hL : L.length < 2 ^ 40) : Mut Tryz.prog 22 (eDr L k) [] (eDr L (n1 L (n1 L k))) (.p (eTs (hpM (hintM L k)))) := by
 let K : KV := endM (eDr L (n1 L (n1 L k))) (.p (eTs (hpM (hintM L k))))
 refine mut_by 20 hHnt (p :=
  let a0_20 : PV := PV.v (Value.int IntKind.i64 (3 : Int)); let a0_19 : PV := PV.v (Value.int IntKind.i64 (2 : Int)); let a0_18 : PV := PV.v (Value.int IntKind.i64 (8 : Int)); let a0_17 : PV := PV.v (Value.int IntKind.i64 (0 : Int)); let a0_16 : PV := PV.v (Value.int IntKind.i64 (1 : Int)); let a0_15 : Int := nxK L.length (nxK L.length k); let a0_14 : List PV := [a0_17]; let a0_13 : List PV := [PV.v (Value.int IntKind.i64 (4 : Int))]; let a0_12 : PV := PV.lst 1 L.length fun (i : Nat) => eI (L.getD i (0 : Int)); let a0_11 : Int := nxV L.length k (L.getD k.toNat (0 : Int)) (3 : Int); let a0_10 : List PV := a0_17 :: a0_14; let a0_9 : Int := nxV L.length (nxK L.length k) (L.getD (nxK L.length k).toNat (0 : Int)) (4 : Int); let a0_8 : D := D.p (PV.agg (a0_18 :: a0_10)); let a0_7 : List PV := PV.v (Value.int IntKind.i64 a0_11) :: a0_14; let a0_6 : O := O.box (D.p (PV.agg [a0_12, PV.v (Value.int IntKind.i64 a0_15)])); let a0_5 : List O := [a0_6, O.dead]; let a0_4 : D := D.p (PV.agg (PV.v (Value.int IntKind.i64 (11 : Int)) :: a0_7)); let a0_3 : List D := [D.p (PV.agg (PV.v (Value.int IntKind.i64 (13 : Int)) :: a0_7))]; let a0_2 : List D := [D.p (PV.agg (PV.v (Value.int IntKind.i64 (10 : Int)) :: a0_7)), a0_8, D.p (PV.agg (PV.v (Value.int IntKind.i64 (12 : Int)) :: a0_7))]; let a0_1 : List D := D.p (PV.agg (PV.v (Value.int IntKind.i64 (15 : Int)) :: a0_19 :: a0_13)) :: a0_4 :: D.p (PV.agg (a0_16 :: PV.v (Value.int IntKind.i64 (16 : Int)) :: a0_14)) :: D.p (PV.agg (a0_19 :: a0_10)) :: a0_3; let a0_0 : List D := D.p (PV.agg (PV.v (Value.int IntKind.i64 (9 : Int)) :: a0_10)) :: D.p (PV.agg (a0_16 :: a0_18 :: a0_14)) :: D.p (PV.agg (a0_20 :: a0_10)) :: D.p (PV.agg (PV.v (Value.int IntKind.i64 (14 : Int)) :: a0_20 :: a0_14)) :: a0_4 :: a0_8 :: a0_3; Mut Tryz.prog 20 (eDr L k) [a0_20] (PV.agg [a0_12, eI (nxK L.length k)]) (vint IntKind.i64 a0_11) ∧ Mut Tryz.prog 20 (PV.agg [a0_12, PV.v (Value.int IntKind.i64 (nxK L.length k))]) a0_13 (PV.agg [a0_12, eI a0_15]) (vint IntKind.i64 a0_9) ∧ ((a0_9 == (1 : Int)) = true → (∀ (j : Nat), j < 3 → nthD a0_2 j = D.p (nthD a0_2 j).unP) ∧ K (D.p (PV.lst 3 3 fun (j : Nat) => (nthD a0_2 j).unP)) a0_5) ∧ ((a0_9 == (1 : Int)) = false → ((a0_9 == (2 : Int)) = true → (∀ (j : Nat), j < 7 → nthD a0_0 j = D.p (nthD a0_0 j).unP) ∧ K (D.p (PV.lst 3 7 fun (j : Nat) => (nthD a0_0 j).unP)) a0_5) ∧ ((a0_9 == (2 : Int)) = false → ((a0_9 == (3 : Int)) = true → (∀ (j : Nat), j < 5 → nthD a0_1 j = D.p (nthD a0_1 j).unP) ∧ K (D.p (PV.lst 3 5 fun (j : Nat) => (nthD a0_1 j).unP)) a0_5) ∧ ((a0_9 == (3 : Int)) = false → K (D.p (PV.v (Value.slice none 0 0))) [a0_6])))) (by kernel_rfl) ?_
 have b1 := nxb hk
 have hV : 0 ≤ v1 L k 3 := (nxV_lt (by omega)).1
 have hN : ((v1 L k 3).toNat : Int) = v1 L k 3 := by omega
 have hK : ∀ (x : PV) (H : List O), leP x (eTs (hpM (hintM L k))) → K (.p x) (.box (.p (eDr L (n1 L (n1 L k)))) :: H) := fun x H h => ⟨h, leP_refl _⟩
 have hh : ∀ c : Nat, v1 L (n1 L k) 4 = c → hintM L k = (c, (v1 L k 3).toNat) := fun c h => by rw [hintM, h]; rfl
 have hj : ∀ {n : Nat} {f : Nat → D} {P : Nat → Prop}, (∀ j, j < n → P j) → ∀ j, j < n → P j := fun h => h
 refine ⟨next_ok L k 3 hk hL (by omega) (by omega), next_ok L _ 4 b1 hL (by omega) (by omega), fun h => ⟨?_, hK _ _ ?_⟩, fun h1 => ⟨fun h => ⟨?_, hK _ _ ?_⟩, fun h2 => ⟨fun h => ⟨?_, hK _ _ ?_⟩, fun h3 => hK _ _ ?_⟩⟩⟩
 ·intro j hj; rcases j with _|_|_|j <;> first | rfl | (exfalso; omega)
 ·rw [hh 1 (eq_of_beq h), hpM, hN]
  refine ⟨rfl, fun j hj => ?_⟩
  rcases j with _|_|_|j <;> first | exact leP_refl _ | (exfalso; omega)
 ·intro j hj; rcases j with _|_|_|_|_|_|_|j <;> first | rfl | (exfalso; omega)
 ·rw [hh 2 (eq_of_beq h), hpM, hN]
  refine ⟨rfl, fun j hj => ?_⟩
  rcases j with _|_|_|_|_|_|_|j <;> first | exact leP_refl _ | (exfalso; omega)
 ·intro j hj; rcases j with _|_|_|_|_|j <;> first | rfl | (exfalso; omega)
 ·rw [hh 3 (eq_of_beq h), hpM, hN]
  refine ⟨rfl, fun j hj => ?_⟩
  rcases j with _|_|_|_|_|j <;> first | exact leP_refl _ | (exfalso; omega)
 ·have hv : 0 ≤ v1 L (n1 L k) 4 ∧ v1 L (n1 L k) 4 < 4 := nxV_lt (by omega)
  have e1 : v1 L (n1 L k) 4 ≠ 1 := ne_of_beq_false h1
  have e2 : v1 L (n1 L k) 4 ≠ 2 := ne_of_beq_false h2
  have e3 : v1 L (n1 L k) 4 ≠ 3 := ne_of_beq_false h3
  rw [hh 0 (by omega)]
  exact (rfl : (hpM (0, _)).length = 0)
end Go.Proofs.YtekhlnihpfkkkaaGreatDoor
namespace Go.Proofs.YtekhlnihpfkkkaaGreatDoor
open Go.Eng
def barS (x y w h : Int) : List Pt := [(x, y, true), (x + w, y, true), (x + w, y + h, true), (x, y + h, true)]
def pcBar : FuncId → List PV → Option D := fun f ar => bif Nat.beq f 43 then (match ar with
  | [.v (.int _ x), .v (.int _ y), .v (.int _ w), .v (.int _ h)] => some (.p (eC (barS x y w h)))
  | _ => none) else none
def n2 (L : List Int) (k : Int) : Int := n1 L (n1 L k)
def n4 (L : List Int) (k : Int) : Int := n2 L (n2 L k)
def n3 (L : List Int) (k : Int) : Int := n1 L (n2 L k)
def n5 (L : List Int) (k : Int) : Int := n1 L (n4 L k)
def stX (L : List Int) (k i : Int) : Int := 8 * ((i + v1 L k 3) % 4)
def stH (L : List Int) (k : Int) : Int := 32 + 8 * v1 L (n1 L k) 4
def stY (L : List Int) (k i : Int) : Int := 8 * ((3 * i + v1 L (n2 L k) 4) % 7)
def outM (L : List Int) (k i : Int) : List (List Pt) :=
 if v1 L (n3 L k) 4 = 1 then [barS (stX L k i) 0 8 (stH L k), [(8, stY L k i / 2, true), (40, stY L k i / 2, false), (24, stY L k i / 2 + 24, true)]]
 else if v1 L (n3 L k) 4 = 2 then [barS (stX L k i) 0 8 (stH L k)]
 else [barS (stX L k i) 0 8 (stH L k), barS 0 (stY L k i) (24 + 8 * v1 L (n4 L k) 3) 8]
def outK (L : List Int) (k : Int) : Int := if v1 L (n3 L k) 4 = 1 then n4 L k else if v1 L (n3 L k) 4 = 2 then n4 L k else n5 L k
def reOut (L : List Int) (k i : Int) : Env → Nat → RH → RH := fun _ r R =>
 bif Nat.beq r 1 then { R with hs := [(5, vint .i64 (stX L k i)), (9, vint .i64 (stH L k))] }
 else bif Nat.beq r 2 then { R with hs := [(6, vint .i64 (stY L k i))] }
 else bif Nat.beq r 5 then { R with hs := [(2, vint .i64 (stY L k i / 2)), (5, vint .i64 (stY L k i / 2)), (8, vint .i64 (stY L k i / 2)), (9, vint .i64 (stY L k i / 2 + 24))] }
 else bif Nat.beq r 8 then { R with hs := [(5, vint .i64 (24 + 8 * v1 L (n4 L k) 3))] }
 else R
def hOtl (L : List Int) (k i : Int) : FuncId → FH := fun _ => { sp := List.range 100, pm := pmN, pc := pcBar, re := reOut L k i, reg := fun _ => { sh := none, g := 2 }, za := List.range 20, fr := (List.range 20).map (1000 + ·), fi := (List.range 20).map (1000 + ·) }
def hBar : FuncId → FH := fun _ => { sp := List.range 100, reg := fun _ => { sh := none, g := 2 }, za := List.range 20, fr := (List.range 20).map (1000 + ·) }
set_option maxRecDepth 100000 in
theorem bar_ok (x y w h : Int) (hx : -2 ^ 40 < x ∧ x < 2 ^ 40) (hy : -2 ^ 40 < y ∧ y < 2 ^ 40) (hw : -2 ^ 40 < w ∧ w < 2 ^ 40) (hh : -2 ^ 40 < h ∧ h < 2 ^ 40) : Pure Tryz.prog 43 [eI x, eI y, eI w, eI h] (.p (eC (barS x y w h))) := by
 let K : D → Prop := fun d => endL (.p (eC (barS x y w h))) d []
 refine pure_byL 20 hBar (p :=
  let a0_3 : List PV := [PV.v (Value.int IntKind.i64 y), PV.v (Value.bool true)]; let a0_2 : PV := PV.v (Value.int IntKind.i64 (IntKind.i64.wrap (x + w))); let a0_1 : List PV := [PV.v (Value.int IntKind.i64 (IntKind.i64.wrap (y + h))), PV.v (Value.bool true)]; let a0_0 : List D := [D.p (PV.agg (PV.v (Value.int IntKind.i64 x) :: a0_3)), D.p (PV.agg (a0_2 :: a0_3)), D.p (PV.agg (a0_2 :: a0_1)), D.p (PV.agg (PV.v (Value.int IntKind.i64 x) :: a0_1))]; (∀ (j : Nat), j < 4 → nthD a0_0 j = D.p (nthD a0_0 j).unP) ∧ K (D.p (PV.lst 3 4 fun (j : Nat) => (nthD a0_0 j).unP))) (by kernel_rfl) ?_
 have e1 : IntKind.wrap .i64 (x + w) = x + w := wr64 (by omega) (by omega) rfl
 have e2 : IntKind.wrap .i64 (y + h) = y + h := wr64 (by omega) (by omega) rfl
 simp only [e1, e2]
 refine ⟨?_, rfl, ?_⟩
 ·intro j hj; rcases j with _|_|_|_|j <;> first | rfl | (exfalso; omega)
 ·intro j hj; rcases j with _|_|_|_|j <;> first | exact leP_refl _ | (exfalso; omega)
set_option maxRecDepth 100000 in
theorem outm_ok (L : List Int) (k i : Int) (hk : 0 ≤ k ∧ k ≤ L.length) (hL : L.length < 2 ^ 40) (hi : 0 ≤ i ∧ i < 100) : Mut Tryz.prog 21 (eDr L k) [eI i] (eDr L (outK L k)) (.p (eO (outM L k i))) := by
 let K : KV := endM (eDr L (outK L k)) (.p (eO (outM L k i)))
 refine mut_by 20 (hOtl L k i) (p :=
  let a0_28 : PV := PV.v (Value.int IntKind.i64 (8 : Int)); let a0_27 : PV := PV.v (Value.int IntKind.i64 (0 : Int)); let a0_26 : Int := nxK L.length (nxK L.length k); let a0_25 : List PV := [PV.v (Value.int IntKind.i64 (4 : Int))]; let a0_24 : Int := IntKind.i64.wrap ((stY L k i).tdiv (2 : Int)); let a0_23 : List PV := [PV.v (Value.int IntKind.i64 (3 : Int))]; let a0_22 : Int := nxK L.length a0_26; let a0_21 : Int := stY L k i / (2 : Int); let a0_20 : Int := nxK L.length a0_22; let a0_19 : List Pt := barS (stX L k i) (0 : Int) (8 : Int) (stH L k); let a0_18 : PV := PV.v (Value.int IntKind.i64 a0_21); let a0_17 : Int := nxV L.length k (L.getD k.toNat (0 : Int)) (3 : Int); let a0_16 : PV := PV.lst 1 L.length fun (i : Nat) => eI (L.getD i (0 : Int)); let a0_15 : Int := nxK L.length a0_20; let a0_14 : Int := nxV L.length (nxK L.length k) (L.getD (nxK L.length k).toNat (0 : Int)) (4 : Int); let a0_13 : Int := a0_21 + (24 : Int); let a0_12 : Int := (24 : Int) + (8 : Int) * v1 L (n4 L k) (3 : Int); let a0_11 : Int := nxV L.length a0_26 (L.getD a0_26.toNat (0 : Int)) (4 : Int); let a0_10 : Int := nxV L.length a0_22 (L.getD a0_22.toNat (0 : Int)) (4 : Int); let a0_9 : PV := PV.agg [a0_16, PV.v (Value.int IntKind.i64 a0_20)]; let a0_8 : List Pt := barS (0 : Int) (stY L k i) a0_12 (8 : Int); let a0_7 : O := O.box (D.p a0_9); let a0_6 : D := D.p (PV.lst 3 a0_19.length fun (i : Nat) => ePt (a0_19.getD i pt0)); let a0_5 : Int := nxV L.length a0_20 (L.getD a0_20.toNat (0 : Int)) (3 : Int); let a0_4 : List D := [a0_6]; let a0_3 : List D := [a0_6, D.own 1]; let a0_2 : List D := [D.p (PV.agg [a0_28, a0_18, PV.v (Value.bool true)]), D.p (PV.agg [PV.v (Value.int IntKind.i64 (40 : Int)), a0_18, PV.v (Value.bool false)]), D.p (PV.agg [PV.v (Value.int IntKind.i64 (24 : Int)), PV.v (Value.int IntKind.i64 a0_13), PV.v (Value.bool true)])]; let a0_1 : PV := PV.lst 3 3 fun (j : Nat) => (nthD a0_2 j).unP; let a0_0 : List D := [a0_6, D.p (PV.lst 3 a0_8.length fun (i : Nat) => ePt (a0_8.getD i pt0))]; Mut Tryz.prog 20 (eDr L k) a0_23 (PV.agg [a0_16, eI (nxK L.length k)]) (vint IntKind.i64 a0_17) ∧ ((4 : Int) = (0 : Int) → False) ∧ IntKind.i64.wrap ((8 : Int) * (IntKind.i64.wrap (i + a0_17)).tmod (4 : Int)) = stX L k i ∧ Mut Tryz.prog 20 (PV.agg [a0_16, PV.v (Value.int IntKind.i64 (nxK L.length k))]) a0_25 (PV.agg [a0_16, eI a0_26]) (vint IntKind.i64 a0_14) ∧ IntKind.i64.wrap ((32 : Int) + IntKind.i64.wrap ((8 : Int) * a0_14)) = stH L k ∧ Eng.Pure Tryz.prog 43 [PV.v (Value.int IntKind.i64 (stX L k i)), a0_27, a0_28, PV.v (Value.int IntKind.i64 (stH L k))] (D.p (eC a0_19)) ∧ Mut Tryz.prog 20 (PV.agg [a0_16, PV.v (Value.int IntKind.i64 a0_26)]) a0_25 (PV.agg [a0_16, eI a0_22]) (vint IntKind.i64 a0_11) ∧ ((7 : Int) = (0 : Int) → False) ∧ IntKind.i64.wrap ((8 : Int) * (IntKind.i64.wrap (IntKind.i64.wrap ((3 : Int) * i) + a0_11)).tmod (7 : Int)) = stY L k i ∧ Mut Tryz.prog 20 (PV.agg [a0_16, PV.v (Value.int IntKind.i64 a0_22)]) a0_25 (PV.agg [a0_16, eI a0_20]) (vint IntKind.i64 a0_10) ∧ ((a0_10 == (1 : Int)) = true → ((2 : Int) = (0 : Int) → False) ∧ a0_24 = a0_21 ∧ ((2 : Int) = (0 : Int) → False) ∧ a0_24 = a0_21 ∧ ((2 : Int) = (0 : Int) → False) ∧ a0_24 = a0_21 ∧ IntKind.i64.wrap a0_13 = a0_13 ∧ (∀ (j : Nat), j < 3 → nthD a0_2 j = D.p (nthD a0_2 j).unP) ∧ (∀ (j : Nat), let a1_0 : D := (D.frz 1 a0_1 (nthD a0_3 j)).getD (nthD a0_3 j); j < 2 → a1_0 = D.p a1_0.unP) ∧ K (D.p (PV.lst 1 2 fun (j : Nat) => ((D.frz 1 a0_1 (nthD a0_3 j)).getD (nthD a0_3 j)).unP)) [a0_7, O.dead, O.dead]) ∧ ((a0_10 == (1 : Int)) = false → ((a0_10 == (2 : Int)) = true → (∀ (j : Nat), j < 1 → nthD a0_4 j = D.p (nthD a0_4 j).unP) ∧ K (D.p (PV.lst 1 1 fun (j : Nat) => (nthD a0_4 j).unP)) [a0_7, O.dead]) ∧ ((a0_10 == (2 : Int)) = false → Mut Tryz.prog 20 a0_9 a0_23 (PV.agg [a0_16, eI a0_15]) (vint IntKind.i64 a0_5) ∧ IntKind.i64.wrap ((24 : Int) + IntKind.i64.wrap ((8 : Int) * a0_5)) = a0_12 ∧ Eng.Pure Tryz.prog 43 [a0_27, PV.v (Value.int IntKind.i64 (stY L k i)), PV.v (Value.int IntKind.i64 a0_12), a0_28] (D.p (eC a0_8)) ∧ (∀ (j : Nat), j < 2 → nthD a0_0 j = D.p (nthD a0_0 j).unP) ∧ K (D.p (PV.lst 1 2 fun (j : Nat) => (nthD a0_0 j).unP)) [O.box (D.p (PV.agg [a0_16, PV.v (Value.int IntKind.i64 a0_15)])), O.dead]))) (by kernel_rfl) ?_
 have b1 := nxb hk
 have b2 := nxb b1
 have b3 := nxb b2
 have b4 := nxb b3
 have v3 : 0 ≤ v1 L k 3 ∧ v1 L k 3 < 3 := nxV_lt (by omega)
 have v4 : 0 ≤ v1 L (n1 L k) 4 ∧ v1 L (n1 L k) 4 < 4 := nxV_lt (by omega)
 have v5 : 0 ≤ v1 L (n2 L k) 4 ∧ v1 L (n2 L k) 4 < 4 := nxV_lt (by omega)
 have v6 : 0 ≤ v1 L (n4 L k) 3 ∧ v1 L (n4 L k) 3 < 3 := nxV_lt (by omega)
 have sx : 0 ≤ stX L k i ∧ stX L k i < 32 := by simp only [stX]; omega
 have sh : 0 ≤ stH L k ∧ stH L k < 64 := by simp only [stH]; omega
 have sy : 0 ≤ stY L k i ∧ stY L k i < 56 := by simp only [stY]; omega
 have ex : IntKind.wrap .i64 (8 * Int.tmod (IntKind.wrap .i64 (i + v1 L k 3)) 4) = stX L k i := by
  rw [show IntKind.wrap .i64 (i + v1 L k 3) = i + v1 L k 3 from wr64 (by omega) (by omega) rfl, Int.tmod_eq_emod_of_nonneg (by omega)]
  exact wr64 (by omega) (by omega) rfl
 have eh : IntKind.wrap .i64 (32 + IntKind.wrap .i64 (8 * v1 L (n1 L k) 4)) = stH L k := by
  rw [show IntKind.wrap .i64 (8 * v1 L (n1 L k) 4) = 8 * v1 L (n1 L k) 4 from wr64 (by omega) (by omega) rfl]
  exact wr64 (by omega) (by omega) rfl
 have ey : IntKind.wrap .i64 (8 * Int.tmod (IntKind.wrap .i64 (IntKind.wrap .i64 (3 * i) + v1 L (n2 L k) 4)) 7) = stY L k i := by
  rw [show IntKind.wrap .i64 (3 * i) = 3 * i from wr64 (by omega) (by omega) rfl, show IntKind.wrap .i64 (3 * i + v1 L (n2 L k) 4) = 3 * i + v1 L (n2 L k) 4 from wr64 (by omega) (by omega) rfl, Int.tmod_eq_emod_of_nonneg (by omega)]
  exact wr64 (by omega) (by omega) rfl
 have eq : IntKind.wrap .i64 (Int.tdiv (stY L k i) 2) = stY L k i / 2 := by
  rw [Int.tdiv_eq_ediv_of_nonneg (by omega)]
  exact wr64 (by omega) (by omega) rfl
 have eq2 : IntKind.wrap .i64 (stY L k i / 2 + 24) = stY L k i / 2 + 24 := wr64 (by omega) (by omega) rfl
 have ew : IntKind.wrap .i64 (24 + IntKind.wrap .i64 (8 * v1 L (n4 L k) 3)) = 24 + 8 * v1 L (n4 L k) 3 := by
  rw [show IntKind.wrap .i64 (8 * v1 L (n4 L k) 3) = 8 * v1 L (n4 L k) 3 from wr64 (by omega) (by omega) rfl]
  exact wr64 (by omega) (by omega) rfl
 have o2 : ¬ ((2 : Int) = 0) := by omega
 have hK : ∀ (x : PV) (q : Int) (H : List O), leP x (eO (outM L k i)) → q = outK L k → K (.p x) (.box (.p (eDr L q)) :: H) := fun x q H h e => ⟨h, leP_eq (congrArg (eDr L) e)⟩
 refine ⟨next_ok L k 3 hk hL (by omega) (by omega), (by decide), ex, next_ok L _ 4 b1 hL (by omega) (by omega), eh, bar_ok _ _ _ _ (by omega) (by omega) (by omega) (by omega), next_ok L _ 4 b2 hL (by omega) (by omega), (by decide), ey,
  next_ok L _ 4 b3 hL (by omega) (by omega), fun h => ⟨o2, eq, o2, eq, o2, eq, eq2, ?_, ?_, hK _ _ _ ?_ ?_⟩, fun h1 => ⟨fun h => ⟨?_, hK _ _ _ ?_ ?_⟩, fun h2 => ⟨next_ok L _ 3 b4 hL (by omega) (by omega), ew, bar_ok _ _ _ _ (by omega) (by omega) (by omega) (by omega), ?_, hK _ _ _ ?_ ?_⟩⟩⟩
 ·intro j hj; rcases j with _|_|_|j <;> first | rfl | (exfalso; omega)
 ·intro j a hj; rcases j with _|_|j <;> first | rfl | (exfalso; omega)
 ·have hc : v1 L (n3 L k) 4 = 1 := eq_of_beq h
  rw [outM, if_pos hc]
  refine ⟨rfl, fun j hj => ?_⟩
  rcases j with _|_|j
  ·exact leP_refl _
  ·refine ⟨rfl, fun j hj => ?_⟩
   rcases j with _|_|_|j <;> first | exact leP_refl _ | (exfalso; omega)
  ·exfalso; omega
 ·have hc : v1 L (n3 L k) 4 = 1 := eq_of_beq h
  rw [outK, if_pos hc]; rfl
 ·intro j hj; rcases j with _|j <;> first | rfl | (exfalso; omega)
 ·have hc : v1 L (n3 L k) 4 = 2 := eq_of_beq h
  rw [outM, if_neg (by omega), if_pos hc]
  refine ⟨rfl, fun j hj => ?_⟩
  rcases j with _|j <;> first | exact leP_refl _ | (exfalso; omega)
 ·have hc : v1 L (n3 L k) 4 = 2 := eq_of_beq h
  rw [outK, if_neg (by omega), if_pos hc]; rfl
 ·intro j hj; rcases j with _|_|j <;> first | rfl | (exfalso; omega)
 ·have e1 : v1 L (n3 L k) 4 ≠ 1 := ne_of_beq_false h1
  have e2 : v1 L (n3 L k) 4 ≠ 2 := ne_of_beq_false h2
  rw [outM, if_neg e1, if_neg e2]
  refine ⟨rfl, fun j hj => ?_⟩
  rcases j with _|_|j <;> first | exact leP_refl _ | (exfalso; omega)
 ·have e1 : v1 L (n3 L k) 4 ≠ 1 := ne_of_beq_false h1
  have e2 : v1 L (n3 L k) 4 ≠ 2 := ne_of_beq_false h2
  rw [outK, if_neg e1, if_neg e2]; rfl
end Go.Proofs.YtekhlnihpfkkkaaGreatDoor
namespace Go.Proofs.YtekhlnihpfkkkaaGreatDoor
open Go.Eng
def mk (L : List Int) (k : Int) : Nat → Int
 | 0 => k
 | i + 1 => n2 L (mk L k i)
def tk (L : List Int) (k : Int) : Nat → Int
 | 0 => k
 | i + 1 => n1 L (tk L k i)
def mv (L : List Int) (k : Int) : Int × Int := (4 * (v1 L k 7 - 3), 4 * (v1 L (n1 L k) 7 - 3))
def ten4 (v : Int) : Tn := if v = 0 then (0, 64, 64) else if v = 1 then (-64, -64, 0) else if v = 2 then (0, 32, 64) else (-64, -32, 0)
def ten2 (v : Int) : Tn := if v = 0 then (0, 0, 0) else (0, 64, 64)
def tenM (L : List Int) (k : Int) (j : Nat) : Tn := if j = 0 then ten4 (v1 L k 4) else ten2 (v1 L (tk L (n1 L k) (j - 1)) 2)
def dk1 (L : List Int) (pts axes : Nat) (k : Int) : Int := mk L (tk L (n1 L k) (axes - 1)) pts
def dk (L : List Int) (pts axes : Nat) (k : Int) : Nat → Int
 | 0 => k
 | i + 1 => dk1 L pts axes (dk L pts axes k i)
def delM (L : List Int) (pts axes : Nat) (k : Int) : Dl := ((List.range axes).map (tenM L k), (List.range pts).map fun i => mv L (mk L (tk L (n1 L k) (axes - 1)) i))
def delN (L : List Int) (axes : Nat) (k : Int) : Nat := if axes = 0 then 0 else (v1 L k 3).toNat
def delsM (L : List Int) (pts axes : Nat) (k : Int) : List Dl := (List.range (delN L axes k)).map fun i => delM L pts axes (dk L pts axes (n1 L k) i)
def delsK (L : List Int) (pts axes : Nat) (k : Int) : Int := dk L pts axes (n1 L k) (delN L axes k)
def bxD (L : List Int) (k : Int) : O := .box (.p (eDr L k))
def mkLA {α : Type} (E : Env) (H : List O) (ts ks : List Nat) (E1 : α → Env) (O1 : α → List (Nat × O)) (N1 : α → List O) (inv : α → Prop) (μ : α → Nat) : LH := ⟨α, E1, keepE ts E, fun z => setHs H (O1 z) ++ N1 z, ks, inv, μ⟩
def lDel (L : List Int) (pts axes : Nat) (k0 : Int) : Nat → Env → List O → Option LH := fun r E H =>
 bif Nat.beq r 4 then some (mkLA E H [0, 1, 2, 8] [0, 1] (fun z : Nat => [(9, none, vint .i64 z), (7, none, .own 1)]) (fun z => [(0, bxD L (dk L pts axes (n1 L k0) z))]) (fun z => [.arr 91 2 z fun j => .p (eDl (delM L pts axes (dk L pts axes (n1 L k0) j)))]) (fun z => z ≤ delN L axes k0) (fun z => delN L axes k0 - z))
 else match E.get 9 with
 | some (_, .p (.v (.int _ i))) =>
  bif Nat.beq r 8 then some (mkLH E H [0, 1, 2, 7, 8, 9] [0, 3] (fun z : Nat => [(11, none, vint .i64 (z + 1)), (10, none, .own 3)]) (fun z => [(0, bxD L (tk L (n1 L (dk L pts axes (n1 L k0) i.toNat)) z)), (3, .arr 111 3 (z + 1) fun j => .p (eT ((delM L pts axes (dk L pts axes (n1 L k0) i.toNat)).1.getD j tn0)))]) (fun z => z + 1 ≤ axes) (fun z => axes - z))
  else bif Nat.beq r 13 then some (mkLA E H [0, 1, 2, 7, 8, 9, 10] [0, 4] (fun z : Nat => [(13, none, vint .i64 z), (12, none, .own 4)]) (fun z => [(0, bxD L (mk L (tk L (n1 L (dk L pts axes (n1 L k0) i.toNat)) (axes - 1)) z))]) (fun z => [.arr 96 2 z fun j => .p (eR ((delM L pts axes (dk L pts axes (n1 L k0) i.toNat)).2.getD j (0, 0)))]) (fun z => z ≤ pts) (fun z => pts - z))
  else none
 | _ => none
def rgDel (r : Nat) : RH := bif Nat.beq r 16 then { g := 2, sh := none, frz := [10, 12] } else { g := 2, sh := none }
def reDel (L : List Int) (pts axes : Nat) (k0 : Int) : Env → Nat → RH → RH := fun E r R => match E.get 9 with
 | some (_, .p (.v (.int _ i))) =>
  bif Nat.beq r 6 then { R with hs := [(8, .p (eT (ten4 (v1 L (dk L pts axes (n1 L k0) i.toNat) 4))))] }
  else bif Nat.beq r 10 then (match E.get 11 with
   | some (_, .p (.v (.int _ j))) => { R with hs := [(7, .p (eT (ten2 (v1 L (tk L (n1 L (dk L pts axes (n1 L k0) i.toNat)) (j.toNat - 1)) 2))))] }
   | _ => R)
  else R
 | _ => R
def hDel (L : List Int) (pts axes : Nat) (k0 : Int) : FuncId → FH := fun _ => { sp := List.range 100, pm := pmN, re := reDel L pts axes k0, reg := rgDel, lp := lDel L pts axes k0, fr := [1001], rt := [6] }
theorem getD_rm {α : Type} {f : Nat → α} {n j : Nat} {d : α} (h : j < n) : ((List.range n).map f).getD j d = f j := by
 simp [List.getD, h]
theorem app_ren {A f : Nat → D} {o : List (Nat × Nat)} {n : Nat} (h1 : ∀ i, (A i).ren o = some (A i)) (h2 : ∀ i, (f i).ren o = some (f i)) (i : Nat) : D.ren o (appF A n f i) = some (appF A n f i) := by
 simp only [appF]; split
 ·exact h1 i
 ·exact h2 _
theorem app_one {A f : Nat → D} {n : Nat} (h : f 0 = A n) {j : Nat} (hj : j < n + 1) : appF A n f j = A j := by
 simp only [appF]
 by_cases h1 : j < n
 ·rw [if_pos h1]
 ·have : j = n := by omega
  subst this
  rw [if_neg h1, Nat.sub_self, h]
theorem one_ren {x : D} {o : List (Nat × Nat)} (h : x.ren o = some x) (i : Nat) : D.ren o ([x].getD i default) = some ([x].getD i default) := by
 rcases i with _ | i
 ·exact h
 ·rfl
theorem tkb {L : List Int} {k : Int} (h : 0 ≤ k ∧ k ≤ L.length) : ∀ i, 0 ≤ tk L k i ∧ tk L k i ≤ L.length
 | 0 => h
 | i + 1 => nxb (tkb h i)
theorem mkb {L : List Int} {k : Int} (h : 0 ≤ k ∧ k ≤ L.length) : ∀ i, 0 ≤ mk L k i ∧ mk L k i ≤ L.length
 | 0 => h
 | i + 1 => nxb (nxb (mkb h i))
theorem dkb {L : List Int} {pts axes : Nat} {k : Int} (h : 0 ≤ k ∧ k ≤ L.length) : ∀ i, 0 ≤ dk L pts axes k i ∧ dk L pts axes k i ≤ L.length
 | 0 => h
 | i + 1 => mkb (tkb (nxb (dkb h i)) _) _
theorem delN_le (L : List Int) (axes : Nat) (k : Int) : delN L axes k ≤ 2 := by
 have : 0 ≤ v1 L k 3 ∧ v1 L k 3 < 3 := nxV_lt (by omega)
 simp only [delN]; split <;> omega
theorem t4_eq {v : Int} (h : 0 ≤ v ∧ v < 4) : (Option.rec default (fun val => val) (List.map (fun x : Nat × D => x.2) [(0, D.p (PV.agg [.v (.int .i64 0), .v (.int .i64 64), .v (.int .i64 64)])), (1, D.p (PV.agg [.v (.int .i64 (-64)), .v (.int .i64 (-64)), .v (.int .i64 0)])), (2, D.p (PV.agg [.v (.int .i64 0), .v (.int .i64 32), .v (.int .i64 64)])), (3, D.p (PV.agg [.v (.int .i64 (-64)), .v (.int .i64 (-32)), .v (.int .i64 0)]))])[v.toNat]? : D) = D.p (eT (ten4 v)) := by
 rcases (by omega : v = 0 ∨ v = 1 ∨ v = 2 ∨ v = 3) with rfl | rfl | rfl | rfl <;> rfl
theorem t2_eq {v : Int} (h : 0 ≤ v ∧ v < 2) : (Option.rec default (fun val => val) (List.map (fun x : Nat × D => x.2) [(0, D.p (PV.agg [.v (.int .i64 0), .v (.int .i64 0), .v (.int .i64 0)])), (1, D.p (PV.agg [.v (.int .i64 0), .v (.int .i64 64), .v (.int .i64 64)]))])[v.toNat]? : D) = D.p (eT (ten2 v)) := by
 rcases (by omega : v = 0 ∨ v = 1) with rfl | rfl <;> rfl
set_option maxRecDepth 100000 in
theorem dels_ok (L : List Int) (k : Int) (pts axes : Nat) (hk : 0 ≤ k ∧ k ≤ L.length) (hL : L.length < 2 ^ 40) (hp : pts < 2 ^ 20) (ha : axes < 2 ^ 20) : Mut Tryz.prog 23 (eDr L k) [eI pts, eI axes] (eDr L (delsK L pts axes k)) (.p (eDls (delsM L pts axes k))) := by
 let K : KV := endM (eDr L (delsK L pts axes k)) (.p (eDls (delsM L pts axes k)))
 refine mut_by 20 (hDel L pts axes k) (p :=
  let a0_25 : PV := PV.v (Value.int IntKind.i64 (0 : Int)); let a0_24 : PV := PV.v (Value.int IntKind.i64 (64 : Int)); let a0_23 : List Nat := [6]; let a0_22 : PV := PV.v (Value.int IntKind.i64 (-64 : Int)); let a0_21 : List PV := [a0_25]; let a0_20 : List PV := [PV.v (Value.int IntKind.i64 (7 : Int))]; let a0_19 : List PV := [a0_24]; let a0_18 : Int × Int := ((0 : Int), (0 : Int)); let a0_17 : Nat := axes - 1; let a0_16 : Int := nxV L.length k (L.getD k.toNat (0 : Int)) (3 : Int); let a0_15 : PV := PV.lst 1 L.length fun (i : Nat) => eI (L.getD i (0 : Int)); let a0_14 : Nat × Option Bool × D := (1, none, D.p (eI (↑pts : Int))); let a0_13 : Nat × Option Bool × D := (2, none, D.p (eI (↑axes : Int))); let a0_12 : Nat × Option Bool × D := (7, none, D.own 1); let a0_11 : Nat × Option Bool × D := (0, none, D.ref 0 []); let a0_10 : D := D.p (PV.agg (a0_25 :: a0_24 :: a0_19)); let a0_9 : List (Nat × Nat) := numbered (0 :: 1 :: 2 :: a0_23) 0; let a0_8 : List (Nat × Nat) := numbered [0, 1, 2, 3] 0; let a0_7 : List (Nat × Option Bool × D) := [(10, none, D.own 3)]; let a0_6 : Nat × Option Bool × D := (8, none, D.p (PV.v (Value.int IntKind.i64 a0_16))); let a0_5 : List (Nat × Nat) := numbered (0 :: 1 :: 2 :: 3 :: a0_23) 0; let a0_4 : List (Nat × Nat) := numbered [0, 1, 2, 3, 4] 0; let a0_3 : List (Nat × Option Bool × D) := [a0_11, a0_14, a0_13, a0_6]; let a0_2 : List D := List.map (fun (x : Nat × D) => x.snd) [(0, a0_10), (1, D.p (PV.agg (a0_22 :: a0_22 :: a0_21))), (2, D.p (PV.agg (a0_25 :: PV.v (Value.int IntKind.i64 (32 : Int)) :: a0_19))), (3, D.p (PV.agg (a0_22 :: PV.v (Value.int IntKind.i64 (-32 : Int)) :: a0_21)))]; let a0_1 : O := O.arr 111 3 4 fun (j : Nat) => a0_2.getD j default; let a0_0 : List O := [a0_1]; Mut Tryz.prog 20 (eDr L k) [PV.v (Value.int IntKind.i64 (3 : Int))] (PV.agg [a0_15, eI (nxK L.length k)]) (vint IntKind.i64 a0_16) ∧ (∃ (x : Nat), x ≤ delN L axes k ∧ (∀ (i : Nat), let a2_0 : D := D.p (eDl (delM L pts axes (dk L pts axes (n1 L k) i))); i < 0 → D.ren (numbered [0, 1] 0) a2_0 = some a2_0) ∧ Int.ofNat 0 = (↑x : Int) ∧ D.p (PV.agg [a0_15, PV.v (Value.int IntKind.i64 (nxK L.length k))]) = D.p (eDr L (dk L pts axes (n1 L k) x)) ∧ (0 = x ∧ ∀ (j : Nat), let a2_0 : D := D.p (eDl (delM L pts axes (dk L pts axes (n1 L k) j))); j < 0 → a2_0 = a2_0) ∧ a0_3 = a0_3 ∧ ([] : List O) = []) ∧ ∀ (z : Nat), let a1_25 : Int := dk L pts axes (n1 L k) z; let a1_24 : PV := eDr L a1_25; let a1_23 : Int := dk L pts axes (n1 L k) (↑z : Int).toNat; let a1_22 : Int := nxK L.length a1_25; let a1_21 : Nat := z + 1; let a1_20 : Int := n1 L a1_23; let a1_19 : Dl := delM L pts axes a1_23; let a1_18 : Int := tk L a1_20 a0_17; let a1_17 : List O := [O.box (D.p a1_24), O.dead]; let a1_16 : Tn := ten4 (v1 L a1_23 (4 : Int)); let a1_15 : D := D.p (eT a1_16); let a1_14 : List Tn := a1_19.fst; let a1_13 : Nat × Option Bool × D := (9, none, vint IntKind.i64 (↑z : Int)); let a1_12 : List (Int × Int) := a1_19.snd; let a1_11 : D := D.p (PV.lst 2 z fun (j : Nat) => (D.p (eDl (delM L pts axes (dk L pts axes (n1 L k) j)))).unP); let a1_10 : Nat × Option Bool × D := (9, none, D.p (PV.v (Value.int IntKind.i64 (↑z : Int)))); let a1_9 : Int × Int := a1_16.snd; let a1_8 : O := O.arr 91 2 z fun (j : Nat) => D.p (eDl (delM L pts axes (dk L pts axes (n1 L k) j))); let a1_7 : List O := a1_8 :: a0_0; let a1_6 : Int := nxV L.length a1_25 (L.getD a1_25.toNat (0 : Int)) (4 : Int); let a1_5 : Nat := a1_6.toNat; let a1_4 : List (Nat × Option Bool × D) := a0_11 :: a0_14 :: a0_13 :: a0_12 :: a0_6 :: a1_13 :: a0_7; let a1_3 : List (Nat × Option Bool × D) := a0_11 :: a0_14 :: a0_13 :: a0_12 :: a0_6 :: a1_10 :: a0_7; let a1_2 : List (Nat × Option Bool × D) := [a0_11, a0_14, a0_13, a0_12, a0_6, a1_13]; let a1_1 : List (Nat × Option Bool × D) := [a0_11, a0_14, a0_13, a0_12, a0_6, a1_10]; let a1_0 : List D := List.map (fun (x : Nat × D) => x.snd) [(0, D.p (PV.agg [PV.v (Value.int IntKind.i64 a1_16.fst), PV.v (Value.int IntKind.i64 a1_9.fst), PV.v (Value.int IntKind.i64 a1_9.snd)]))]; z ≤ delN L axes k → (decide ((↑z : Int) < a0_16) = true → (decide ((0 : Int) < (↑axes : Int)) = true → Mut Tryz.prog 20 a1_24 [PV.v (Value.int IntKind.i64 (4 : Int))] (PV.agg [a0_15, eI a1_22]) (vint IntKind.i64 a1_6) ∧ (0 : Int) ≤ a1_6 ∧ a1_6 < (↑4 : Int) ∧ Option.rec default (fun (val : D) => val) a0_2[a1_5]? = a1_15 ∧ a1_5 < 4 ∧ a1_15 = a1_15 ∧ (∃ (x : Nat), let a2_0 : Nat := x + 1; a2_0 ≤ axes ∧ (∀ (i : Nat), let a3_0 : D := D.p (eDl (delM L pts axes (dk L pts axes (n1 L k) i))); i < z → D.ren a0_8 a3_0 = some a3_0) ∧ (∀ (i : Nat), i < 4 → D.ren a0_8 (a0_2.getD i default) = some (a0_2.getD i default)) ∧ (∀ (i : Nat), i < 1 → D.ren a0_8 (a1_0.getD i default) = some (a1_0.getD i default)) ∧ Int.ofNat 1 = (↑x : Int) + (1 : Int) ∧ D.p (PV.agg [a0_15, PV.v (Value.int IntKind.i64 a1_22)]) = D.p (eDr L (tk L a1_20 x)) ∧ (1 = a2_0 ∧ ∀ (j : Nat), j < 1 → a1_0.getD j default = D.p (eT (a1_14.getD j tn0))) ∧ a1_1 = a1_2 ∧ a1_7 = a1_7) ∧ ∀ (z_1 : Nat), let a2_11 : Int := nxK L.length (tk L a1_20 z_1); let a2_10 : Nat := z_1 + 1; let a2_9 : Int := (↑z_1 : Int) + (1 : Int); let a2_8 : Nat := a2_10 + 1; let a2_7 : Int := nxV L.length (tk L a1_20 z_1) (L.getD (tk L a1_20 z_1).toNat (0 : Int)) (2 : Int); let a2_6 : Nat := a2_7.toNat; let a2_5 : PV := PV.lst 3 a2_10 fun (j : Nat) => (D.p (eT (a1_14.getD j tn0))).unP; let a2_4 : Tn := ten2 (v1 L (tk L a1_20 (a2_9.toNat - 1)) (2 : Int)); let a2_3 : D := D.p (eT a2_4); let a2_2 : List O := [a1_8, a0_1, O.arr 111 3 a2_10 fun (j : Nat) => D.p (eT (a1_14.getD j tn0))]; let a2_1 : Int × Int := a2_4.snd; let a2_0 : List D := List.map (fun (x : Nat × D) => x.snd) [(0, D.p (PV.agg [PV.v (Value.int IntKind.i64 a2_4.fst), PV.v (Value.int IntKind.i64 a2_1.fst), PV.v (Value.int IntKind.i64 a2_1.snd)]))]; a2_10 ≤ axes → (decide (a2_9 < (↑axes : Int)) = true → Mut Tryz.prog 20 (eDr L (tk L a1_20 z_1)) [PV.v (Value.int IntKind.i64 (2 : Int))] (PV.agg [a0_15, eI a2_11]) (vint IntKind.i64 a2_7) ∧ (0 : Int) ≤ a2_7 ∧ a2_7 < (↑2 : Int) ∧ Option.rec default (fun (val : D) => val) (List.map (fun (x : Nat × D) => x.snd) [(0, D.p (PV.agg (a0_25 :: a0_25 :: a0_21))), (1, a0_10)])[a2_6]? = a2_3 ∧ a2_6 < 2 ∧ a2_3 = a2_3 ∧ a2_8 * 24 ≤ 140737488355328 ∧ ∃ (y : Nat), let a3_0 : Nat := y + 1; a3_0 ≤ axes ∧ axes - y < axes - z_1 ∧ (∀ (i : Nat), let a4_0 : D := D.p (eDl (delM L pts axes (dk L pts axes (n1 L k) i))); i < z → D.ren a0_9 a4_0 = some a4_0) ∧ (∀ (i : Nat), i < 4 → D.ren a0_9 (a0_2.getD i default) = some (a0_2.getD i default)) ∧ (∀ (i : Nat), let a4_0 : D := appF (fun (j : Nat) => D.p (eT (a1_14.getD j tn0))) a2_10 (fun (j : Nat) => a2_0.getD j default) i; i < a2_8 → D.ren a0_9 a4_0 = some a4_0) ∧ IntKind.i64.wrap (a2_9 + (1 : Int)) = (↑y : Int) + (1 : Int) ∧ D.p (PV.agg [a0_15, PV.v (Value.int IntKind.i64 a2_11)]) = D.p (eDr L (tk L a1_20 y)) ∧ (a2_8 = a3_0 ∧ ∀ (j : Nat), j < a2_8 → appF (fun (j : Nat) => D.p (eT (a1_14.getD j tn0))) a2_10 (fun (j : Nat) => a2_0.getD j default) j = D.p (eT (a1_14.getD j tn0))) ∧ a1_1 = a1_2 ∧ a1_7 = a1_7) ∧ (decide (a2_9 < (↑axes : Int)) = false → (∃ (x : Nat), x ≤ pts ∧ (∀ (i : Nat), let a4_0 : D := D.p (eDl (delM L pts axes (dk L pts axes (n1 L k) i))); i < z → D.ren a0_4 a4_0 = some a4_0) ∧ (∀ (i : Nat), i < 4 → D.ren a0_4 (a0_2.getD i default) = some (a0_2.getD i default)) ∧ (∀ (i : Nat), i < a2_10 → D.ren a0_4 (D.p (eT (a1_14.getD i tn0))) = some (D.p (eT (a1_14.getD i tn0)))) ∧ (∀ (i : Nat), let a4_0 : D := D.p (eR (a1_12.getD i a0_18)); i < 0 → D.ren a0_4 a4_0 = some a4_0) ∧ Int.ofNat 0 = (↑x : Int) ∧ D.p (eDr L (tk L a1_20 z_1)) = D.p (eDr L (mk L a1_18 x)) ∧ (0 = x ∧ ∀ (j : Nat), let a4_0 : D := D.p (eR (a1_12.getD j a0_18)); j < 0 → a4_0 = a4_0) ∧ a1_3 = a1_4 ∧ a2_2 = a2_2) ∧ ∀ (z_2 : Nat), let a3_6 : Int := nxK L.length (mk L a1_18 z_2); let a3_5 : Int := nxK L.length a3_6; let a3_4 : Nat := z_2 + 1; let a3_3 : Int := nxV L.length (mk L a1_18 z_2) (L.getD (mk L a1_18 z_2).toNat (0 : Int)) (7 : Int); let a3_2 : Int := nxV L.length a3_6 (L.getD a3_6.toNat (0 : Int)) (7 : Int); let a3_1 : List D := List.map (fun (x : Nat × D) => x.snd) [(0, D.p (PV.agg [a2_5, PV.lst 2 z_2 fun (j : Nat) => (D.p (eR (a1_12.getD j a0_18))).unP]))]; let a3_0 : List D := List.map (fun (x : Nat × D) => x.snd) [(0, D.p (PV.agg [PV.v (Value.int IntKind.i64 (IntKind.i64.wrap ((4 : Int) * IntKind.i64.wrap (a3_3 - (3 : Int))))), PV.v (Value.int IntKind.i64 (IntKind.i64.wrap ((4 : Int) * IntKind.i64.wrap (a3_2 - (3 : Int)))))]))]; z_2 ≤ pts → (decide ((↑z_2 : Int) < (↑pts : Int)) = true → Mut Tryz.prog 20 (eDr L (mk L a1_18 z_2)) a0_20 (PV.agg [a0_15, eI a3_6]) (vint IntKind.i64 a3_3) ∧ Mut Tryz.prog 20 (PV.agg [a0_15, PV.v (Value.int IntKind.i64 a3_6)]) a0_20 (PV.agg [a0_15, eI a3_5]) (vint IntKind.i64 a3_2) ∧ a3_4 * 16 ≤ 140737488355328 ∧ ∃ (y : Nat), y ≤ pts ∧ pts - y < pts - z_2 ∧ (∀ (i : Nat), let a5_0 : D := D.p (eDl (delM L pts axes (dk L pts axes (n1 L k) i))); i < z → D.ren a0_5 a5_0 = some a5_0) ∧ (∀ (i : Nat), i < 4 → D.ren a0_5 (a0_2.getD i default) = some (a0_2.getD i default)) ∧ (∀ (i : Nat), i < a2_10 → D.ren a0_5 (D.p (eT (a1_14.getD i tn0))) = some (D.p (eT (a1_14.getD i tn0)))) ∧ (∀ (i : Nat), let a5_0 : D := appF (fun (j : Nat) => D.p (eR (a1_12.getD j a0_18))) z_2 (fun (j : Nat) => a3_0.getD j default) i; i < a3_4 → D.ren a0_5 a5_0 = some a5_0) ∧ IntKind.i64.wrap ((↑z_2 : Int) + (1 : Int)) = (↑y : Int) ∧ D.p (PV.agg [a0_15, PV.v (Value.int IntKind.i64 a3_5)]) = D.p (eDr L (mk L a1_18 y)) ∧ (a3_4 = y ∧ ∀ (j : Nat), j < a3_4 → appF (fun (j : Nat) => D.p (eR (a1_12.getD j a0_18))) z_2 (fun (j : Nat) => a3_0.getD j default) j = D.p (eR (a1_12.getD j a0_18))) ∧ a1_3 = a1_4 ∧ a2_2 = a2_2) ∧ (decide ((↑z_2 : Int) < (↑pts : Int)) = false → (∀ (j : Nat), j < a2_10 → D.p (eT (a1_14.getD j tn0)) = D.p (D.p (eT (a1_14.getD j tn0))).unP) ∧ (∀ (j : Nat), let a4_0 : D := D.p (eR (a1_12.getD j a0_18)); j < z_2 → a4_0 = D.p a4_0.unP) ∧ a1_21 * 48 ≤ 140737488355328 ∧ ∃ (y : Nat), y ≤ delN L axes k ∧ delN L axes k - y < delN L axes k - z ∧ (∀ (i : Nat), let a5_0 : D := appF (fun (j : Nat) => D.p (eDl (delM L pts axes (dk L pts axes (n1 L k) j)))) z (fun (j : Nat) => a3_1.getD j default) i; i < a1_21 → D.ren (numbered (0 :: a0_23) 0) a5_0 = some a5_0) ∧ IntKind.i64.wrap ((↑z : Int) + (1 : Int)) = (↑y : Int) ∧ D.p (eDr L (mk L a1_18 z_2)) = D.p (eDr L (dk L pts axes (n1 L k) y)) ∧ (a1_21 = y ∧ ∀ (j : Nat), j < a1_21 → appF (fun (j : Nat) => D.p (eDl (delM L pts axes (dk L pts axes (n1 L k) j)))) z (fun (j : Nat) => a3_1.getD j default) j = D.p (eDl (delM L pts axes (dk L pts axes (n1 L k) j)))) ∧ a0_3 = a0_3 ∧ ([] : List O) = []))) ∧ (decide ((0 : Int) < (↑axes : Int)) = false → (∀ (j : Nat), let a2_0 : D := D.p (eDl (delM L pts axes (dk L pts axes (n1 L k) j))); j < z → a2_0 = D.p a2_0.unP) ∧ K a1_11 a1_17)) ∧ (decide ((↑z : Int) < a0_16) = false → (∀ (j : Nat), let a2_0 : D := D.p (eDl (delM L pts axes (dk L pts axes (n1 L k) j))); j < z → a2_0 = D.p a2_0.unP) ∧ K a1_11 a1_17)) (by kernel_rfl) ?_
 have hK : ∀ (x : PV) (q : Int) (H : List O), leP x (eDls (delsM L pts axes k)) → q = delsK L pts axes k → K (.p x) (.box (.p (eDr L q)) :: H) := fun x q H h e => ⟨h, leP_eq (congrArg (eDr L) e)⟩
 simp only [Int.toNat_natCast, decide_eq_true_eq, decide_eq_false_iff_not, and_true, true_and]
 have b1 := nxb hk
 have vm : 0 ≤ v1 L k 3 ∧ v1 L k 3 < 3 := nxV_lt (by omega)
 have hend : ∀ (z : Nat) (H : List O), z = delN L axes k → K (.p (.lst 2 z fun j => (D.p (eDl (delM L pts axes (dk L pts axes (n1 L k) j)))).unP)) (.box (.p (eDr L (dk L pts axes (n1 L k) z))) :: H) := fun z H h => by
  subst h
  refine hK _ _ _ ⟨by simp [delsM], fun j hj => ?_⟩ rfl
  exact leP_eq (congrArg eDl (getD_rm (f := fun i => delM L pts axes (dk L pts axes (n1 L k) i)) (d := dl0) hj).symm)
 refine ⟨next_ok L k 3 hk hL (by omega) (by omega), ⟨0, Nat.zero_le _, fun i h => by omega, rfl, rfl, rfl, fun j h => by omega⟩, fun z hz => ⟨fun h1 => ⟨fun h2 => ?_, fun h2 => ⟨fun _ _ => rfl, hend _ _ ?_⟩⟩, fun h1 => ⟨fun _ _ => rfl, hend _ _ ?_⟩⟩⟩
 ·have bz := dkb (pts := pts) (axes := axes) b1 z
  have v4 : 0 ≤ v1 L (dk L pts axes (n1 L k) z) 4 ∧ v1 L (dk L pts axes (n1 L k) z) 4 < 4 := nxV_lt (by omega)
  refine ⟨next_ok L _ 4 bz hL (by omega) (by omega), v4.1, v4.2, t4_eq v4, (by have := v4; show (v1 L (dk L pts axes (n1 L k) z) 4).toNat < 4; omega), ⟨0, by omega, fun _ _ => rfl, ?_, fun i _ => one_ren rfl i, rfl, rfl, rfl, ?_⟩, fun y hy => ⟨fun h3 => ?_, fun h3 => ?_⟩⟩
  ·intro i hi; rcases i with _ | _ | _ | _ | i <;> first | rfl | (exfalso; omega)
  ·intro j hj; rcases j with _ | j
   ·exact congrArg (fun q => D.p (eT q)) (getD_rm (f := tenM L (dk L pts axes (n1 L k) z)) (d := tn0) (show 0 < axes by omega)).symm
   ·exfalso; omega
  ·have by1 := tkb (nxb bz) y
   have v2 : 0 ≤ v1 L (tk L (n1 L (dk L pts axes (n1 L k) z)) y) 2 ∧ v1 L (tk L (n1 L (dk L pts axes (n1 L k) z)) y) 2 < 2 := nxV_lt (by omega)
   have ey : ((y : Int) + 1).toNat - 1 = y := by omega
   simp only [ey]
   refine ⟨next_ok L _ 2 by1 hL (by omega) (by omega), v2.1, v2.2, t2_eq v2, (by have := v2; show (v1 L (tk L (n1 L (dk L pts axes (n1 L k) z)) y) 2).toNat < 2; omega), by omega, y + 1, by omega, by omega, fun _ _ => rfl, ?_, fun i _ => ?_, ?_, rfl, rfl, fun j hj => ?_⟩
   ·intro i hi; rcases i with _ | _ | _ | _ | i <;> first | rfl | (exfalso; omega)
   ·exact app_ren (fun _ => rfl) (fun i => one_ren rfl i) i
   ·exact wr64 (by omega) (by omega) (by omega)
   ·exact app_one (n := y + 1) (congrArg (fun q => D.p (eT q)) (getD_rm (f := tenM L (dk L pts axes (n1 L k) z)) (d := tn0) (show y + 1 < axes by omega)).symm) hj
  ·have hy2 : y = axes - 1 := by omega
   subst hy2
   have bt := tkb (nxb bz) (axes - 1)
   refine ⟨⟨0, Nat.zero_le _, fun _ _ => rfl, ?_, fun _ _ => rfl, fun i h => by omega, rfl, rfl, rfl, fun j h => by omega⟩, fun x hx => ⟨fun h4 => ?_, fun h4 => ?_⟩⟩
   ·intro i hi; rcases i with _ | _ | _ | _ | i <;> first | rfl | (exfalso; omega)
   ·have bx := mkb bt x
    have va : 0 ≤ v1 L (mk L (tk L (n1 L (dk L pts axes (n1 L k) z)) (axes - 1)) x) 7 ∧ v1 L (mk L (tk L (n1 L (dk L pts axes (n1 L k) z)) (axes - 1)) x) 7 < 7 := nxV_lt (by omega)
    have vb : 0 ≤ v1 L (n1 L (mk L (tk L (n1 L (dk L pts axes (n1 L k) z)) (axes - 1)) x)) 7 ∧ v1 L (n1 L (mk L (tk L (n1 L (dk L pts axes (n1 L k) z)) (axes - 1)) x)) 7 < 7 := nxV_lt (by omega)
    have hm : ∀ v : Int, 0 ≤ v ∧ v < 7 → IntKind.wrap .i64 (4 * IntKind.wrap .i64 (v - 3)) = 4 * (v - 3) := fun v hv => by
     rw [show IntKind.wrap .i64 (v - 3) = v - 3 from wr64 (by omega) (by omega) rfl]
     exact wr64 (by omega) (by omega) rfl
    refine ⟨next_ok L _ 7 bx hL (by omega) (by omega), next_ok L _ 7 (nxb bx) hL (by omega) (by omega), by omega, x + 1, by omega, by omega, fun _ _ => rfl, ?_, fun _ _ => rfl, fun i _ => ?_, wr64 (by omega) (by omega) (by omega), rfl, rfl, fun j hj => ?_⟩
    ·intro i hi; rcases i with _ | _ | _ | _ | i <;> first | rfl | (exfalso; omega)
    ·exact app_ren (fun _ => rfl) (fun i => one_ren rfl i) i
    ·refine app_one (n := x) ?_ hj
     exact congrArg (fun q : Int × Int => D.p (eR q)) ((Prod.ext (hm _ va) (hm _ vb) : ((_, _) : Int × Int) = mv L (mk L (tk L (n1 L (dk L pts axes (n1 L k) z)) (axes - 1)) x)).trans (getD_rm (f := fun i => mv L (mk L (tk L (n1 L (dk L pts axes (n1 L k) z)) (axes - 1)) i)) (d := (0, 0)) (show x < pts by omega)).symm)
   ·have hx2 : x = pts := by omega
    have e1 : (delM L pts axes (dk L pts axes (n1 L k) z)).1.length = axes - 1 + 1 := by simp [delM]; omega
    have e2 : (delM L pts axes (dk L pts axes (n1 L k) z)).2.length = x := by simp [delM]; omega
    have e3 : dk L pts axes (n1 L k) (z + 1) = mk L (tk L (n1 L (dk L pts axes (n1 L k) z)) (axes - 1)) x := by rw [hx2]; rfl
    have hN := delN_le L axes k
    have hz2 : z + 1 ≤ delN L axes k := by
     have h1' : (z : Int) < v1 L k 3 := h1
     simp only [delN]; rw [if_neg (by omega)]; omega
    refine ⟨fun _ _ => rfl, fun _ _ => rfl, by omega, z + 1, hz2, by omega, fun i _ => ?_, wr64 (by omega) (by omega) (by omega), congrArg (fun q => D.p (eDr L q)) e3.symm, rfl, fun j hj => ?_⟩
    ·exact app_ren (fun _ => rfl) (fun i => one_ren rfl i) i
    ·refine app_one (n := z) ?_ hj
     show D.p (.agg [_, _]) = D.p (.agg [eTs _, eMs _])
     simp only [eTs, eMs, eL]
     rw [e1, e2]
     rfl
 ·have : axes = 0 := by omega
  have hd : delN L axes k = 0 := by rw [delN, if_pos this]
  omega
 ·have h1' : ¬ (z : Int) < v1 L k 3 := h1
  simp only [delN] at hz ⊢
  split at hz
  ·rename_i h; rw [if_pos h]; omega
  ·rename_i h; rw [if_neg h]; omega
end Go.Proofs.YtekhlnihpfkkkaaGreatDoor
namespace Go.Proofs.YtekhlnihpfkkkaaGreatDoor
open Go.Eng
def hPut : FuncId → FH := fun _ => { rounds := 2, reg := fun _ => { sh := none, g := 1 }, za := List.range 20, fr := (List.range 20).map (1000 + ·), rt := [4] }
def lRCnt (o : List (List Pt)) : Nat → Env → List O → Option LH := fun _ E H =>
 some (mkLH E H [0] [] (fun z : Nat => [(4, none, vint .i64 z), (3, none, vint .i64 (off o z))]) (fun _ => []) (fun z => z ≤ o.length) (fun z => o.length - z))
def hRCnt (o : List (List Pt)) : FuncId → FH := fun _ => { sp := List.range 100, reg := fun _ => { sh := none, g := 2 }, lp := lRCnt o }
def eLL (l : List (List Int)) : PV := eL eIs 1 [] l
def cutN (l : List (List Int)) : Nat := min l.length 12
def cutS (l : List (List Int)) : List (List Int) := (List.range (cutN l)).map fun k => (l.getD k []).take 40
def lCut (l : List (List Int)) : Nat → Env → List O → Option LH := fun _ E H =>
 some (mkLA E H [0] [0] (fun z : Nat => [(4, none, vint .i64 z), (3, none, .own 0)]) (fun _ => []) (fun z => [.arr 23 1 z fun j => .p (eIs ((cutS l).getD j []))]) (fun z => z ≤ cutN l) (fun z => cutN l - z))
def reCut (l : List (List Int)) : Env → Nat → RH → RH := fun E r R => bif Nat.beq r 5 then (match E.get 4 with
 | some (_, .p (.v (.int _ i))) => { R with hs := [(10, vint .i64 (((cutS l).getD i.toNat []).length)), (11, .p (eIs ((cutS l).getD i.toNat [])))] }
 | _ => R) else R
def hCut (l : List (List Int)) : FuncId → FH := fun _ => { sp := List.range 100, re := reCut l, reg := fun _ => { sh := none, g := 2, wx := true }, lp := lCut l, fr := [1000], rt := [2] }
set_option maxRecDepth 100000 in
theorem put_ok (k : Int) : Pure Tryz.prog 12 [eIs [], eI k] (.p (eIs [k])) := by
 let K : D → Prop := fun d => endL (.p (eIs [k])) d []
 refine pure_byL 20 hPut (p :=
  let a0_0 : List D := [D.p (PV.v (Value.int IntKind.i64 k))]; 8 ≤ 140737488355328 ∧ (∀ (j : Nat), j < 1 → nthD a0_0 j = D.p (nthD a0_0 j).unP) ∧ (∀ (j : Nat), j < 1 → nthD a0_0 j = D.p (nthD a0_0 j).unP) ∧ K (D.p (PV.lst 1 1 fun (j : Nat) => (nthD a0_0 j).unP))) (by kernel_rfl) ?_
 refine ⟨by omega, ?_, ?_, rfl, ?_⟩ <;> (intro j hj; rcases j with _ | j <;> first | exact leP_refl _ | rfl | (exfalso; omega))
set_option maxRecDepth 100000 in
theorem rcount_ok (o : List (List Pt)) (ho : o.length ≤ 2 ^ 40) (hc : cnt o ≤ 2 ^ 40) : Pure Tryz.prog 24 [eO o] (vint .i64 (cnt o)) := by
 let K : D → Prop := fun d => endL (vint .i64 (cnt o)) d []
 refine pure_byL 20 (hRCnt o) (p :=
  let a0_0 : List (Nat × Option Bool × D) := [(0, none, D.p (eO o))]; (∃ (x : Nat), x ≤ o.length ∧ Int.ofNat 0 = (↑x : Int) ∧ Int.ofNat 0 = (↑(off o x) : Int) ∧ a0_0 = a0_0 ∧ ([] : List O) = []) ∧ ∀ (z : Nat), z ≤ o.length → (decide ((↑z : Int) < (↑o.length : Int)) = true → (0 : Int) ≤ (↑z : Int) ∧ (↑z : Int) < (↑o.length : Int) ∧ ∃ (y : Nat), y ≤ o.length ∧ o.length - y < o.length - z ∧ IntKind.i64.wrap ((↑z : Int) + (1 : Int)) = (↑y : Int) ∧ IntKind.i64.wrap ((↑(off o z) : Int) + (↑(o.getD (↑z : Int).toNat []).length : Int)) = (↑(off o y) : Int) ∧ a0_0 = a0_0 ∧ ([] : List O) = []) ∧ (decide ((↑z : Int) < (↑o.length : Int)) = false → K (D.p (PV.v (Value.int IntKind.i64 (↑(off o z) : Int)))))) (by kernel_rfl) ?_
 simp only [Int.toNat_natCast, decide_eq_true_eq, decide_eq_false_iff_not, and_true, true_and]
 have hK : ∀ q : Int, q = cnt o → K (vint .i64 q) := fun q h => leP_eq (congrArg eI h)
 refine ⟨⟨0, by omega, rfl, rfl⟩, fun z hz => ⟨fun h1 => ?_, fun h1 => hK _ ?_⟩⟩
 ·have hz2 := off_lt (o := o) (z := z) (by omega)
  refine ⟨by omega, h1, z + 1, by omega, by omega, wr64 (by omega) (by omega) (by omega), ?_⟩
  rw [off]
  exact wr64 (by omega) (by omega) (by omega)
 ·have : z = o.length := by omega
  subst this; rfl
set_option maxRecDepth 100000 in
theorem cut_ok (l : List (List Int)) (hl : l.length < 2 ^ 60) (hc : ∀ k, (l.getD k []).length < 2 ^ 60) : Pure Tryz.prog 6 [eLL l] (.p (eLL (cutS l))) := by
 let K : D → Prop := fun d => endL (.p (eLL (cutS l))) d []
 refine pure_byL 20 (hCut l) (p :=
  let a0_0 : List (Nat × Option Bool × D) := [(0, none, D.p (eLL l))]; (∃ (x : Nat), x ≤ cutN l ∧ (∀ (i : Nat), let a2_0 : D := D.p (eIs ((cutS l).getD i [])); i < 0 → D.ren (numbered [0] 0) a2_0 = some a2_0) ∧ Int.ofNat 0 = (↑x : Int) ∧ (0 = x ∧ ∀ (j : Nat), let a2_0 : D := D.p (eIs ((cutS l).getD j [])); j < 0 → a2_0 = a2_0) ∧ a0_0 = a0_0 ∧ ([] : List O) = []) ∧ ∀ (z : Nat), let a1_8 : List Int := l.getD (↑z : Int).toNat []; let a1_7 : List Int := (cutS l).getD (↑z : Int).toNat []; let a1_6 : Nat := z + 1; let a1_5 : Nat := a1_7.length; let a1_4 : Int := (↑a1_8.length : Int); let a1_3 : Int := (↑a1_5 : Int); let a1_2 : D := D.p (PV.lst 1 z fun (j : Nat) => (D.p (eIs ((cutS l).getD j []))).unP); let a1_1 : Nat := a1_3.toNat - 0; let a1_0 : List D := List.map (fun (x : Nat × D) => x.snd) [(0, D.p (PV.lst 1 a1_5 fun (i : Nat) => eI (a1_7.getD i (0 : Int))))]; z ≤ cutN l → (decide ((↑z : Int) < (↑l.length : Int)) = true → (decide ((↑z : Int) < (12 : Int)) = true → (0 : Int) ≤ (↑z : Int) ∧ (↑z : Int) < (↑l.length : Int) ∧ (0 : Int) ≤ (↑z : Int) ∧ (↑z : Int) < (↑l.length : Int) ∧ min a1_4 (40 : Int) = a1_3 ∧ (0 : Int) ≤ (0 : Int) ∧ (0 : Int) ≤ a1_3 ∧ a1_3 ≤ a1_4 ∧ (a1_1 = a1_5 ∧ ∀ (j : Nat), j < a1_1 → eI (a1_8.getD (0 + j) (0 : Int)) = eI (a1_7.getD j (0 : Int))) ∧ a1_6 * 24 ≤ 140737488355328 ∧ ∃ (y : Nat), y ≤ cutN l ∧ cutN l - y < cutN l - z ∧ (∀ (i : Nat), let a3_0 : D := appF (fun (j : Nat) => D.p (eIs ((cutS l).getD j []))) z (fun (j : Nat) => a1_0.getD j default) i; i < a1_6 → D.ren (numbered [2] 0) a3_0 = some a3_0) ∧ IntKind.i64.wrap ((↑z : Int) + (1 : Int)) = (↑y : Int) ∧ (a1_6 = y ∧ ∀ (j : Nat), j < a1_6 → appF (fun (j : Nat) => D.p (eIs ((cutS l).getD j []))) z (fun (j : Nat) => a1_0.getD j default) j = D.p (eIs ((cutS l).getD j []))) ∧ a0_0 = a0_0 ∧ ([] : List O) = []) ∧ (decide ((↑z : Int) < (12 : Int)) = false → (∀ (j : Nat), let a2_0 : D := D.p (eIs ((cutS l).getD j [])); j < z → a2_0 = D.p a2_0.unP) ∧ K a1_2)) ∧ (decide ((↑z : Int) < (↑l.length : Int)) = false → (∀ (j : Nat), let a2_0 : D := D.p (eIs ((cutS l).getD j [])); j < z → a2_0 = D.p a2_0.unP) ∧ K a1_2)) (by kernel_rfl) ?_
 simp only [Int.toNat_natCast, decide_eq_true_eq, decide_eq_false_iff_not, and_true, true_and]
 have hcl : (cutS l).length = cutN l := by simp [cutS]
 have hend : ∀ z : Nat, z = cutN l → K (.p (.lst 1 z fun j => (D.p (eIs ((cutS l).getD j []))).unP)) := fun z h => by
  subst h
  exact ⟨hcl.symm, fun j _ => leP_refl _⟩
 refine ⟨⟨0, by omega, fun i h => by omega, rfl, rfl, fun j h => by omega⟩, fun z hz => ⟨fun h1 => ⟨fun h2 => ?_, fun h2 => ⟨fun _ _ => rfl, hend z (by simp only [cutN] at hz ⊢; omega)⟩⟩, fun h1 => ⟨fun _ _ => rfl, hend z (by simp only [cutN] at hz ⊢; omega)⟩⟩⟩
 have hz2 : z < cutN l := by simp only [cutN]; omega
 have e : (cutS l).getD z [] = (l.getD z []).take 40 := getD_rm (f := fun k => (l.getD k []).take 40) hz2
 have hl40 : ((cutS l).getD z []).length = min 40 (l.getD z []).length := by rw [e, List.length_take]
 refine ⟨by omega, h1, by omega, h1, by rw [hl40]; omega, by omega, by omega, by rw [hl40]; omega, ⟨by omega, fun j hj => ?_⟩, by simp only [cutN] at hz2; omega, z + 1, by omega, by omega, fun i _ => ?_, wr64 (by omega) (by omega) (by omega), rfl, fun j hj => ?_⟩
 ·rw [e, Nat.zero_add]
  congr 1
  simp only [List.getD, List.getElem?_take]
  rw [if_pos (by omega)]
 ·exact app_ren (fun _ => rfl) (fun i => one_ren rfl i) i
 ·exact app_one (n := z) rfl hj
end Go.Proofs.YtekhlnihpfkkkaaGreatDoor
namespace Go.Proofs.YtekhlnihpfkkkaaGreatDoor
open Go.Eng
structure Gl where
 name : List UInt8
 adv : Int
 out : List (List Pt)
 del : List Dl
 parts : List Tn
 hint : Nat × Nat
 alts : List Int
def gl0 : Gl := ⟨[], 0, [], [], [], (0, 0), []⟩
def eGl (g : Gl) : PV := .agg [.s g.name, eI g.adv, eO g.out, eDls g.del, eTs g.parts, eTs (hpM g.hint), eIs g.alts]
structure Ax where
 tag : List UInt8
 low : Int
 usual : Int
 high : Int
def ax0 : Ax := ⟨[], 0, 0, 0⟩
structure Sb where
 before : List Int
 frm : List Int
 after : List Int
 to : Int
def sb0 : Sb := ⟨[], [], [], 0⟩
structure Ft where
 name : List UInt8
 ver : Int
 axes : List Ax
 gls : List Gl
 chars : List (Int × Int)
 lks : List (List Sb)
 kerns : List Tn
def eAx (a : Ax) : PV := .agg [.s a.tag, eI a.low, eI a.usual, eI a.high]
def eSb (a : Sb) : PV := .agg [eIs a.before, eIs a.frm, eIs a.after, eI a.to]
def eLk (l : List Sb) : PV := .agg [eL eSb 4 sb0 l]
def eFn (f : Ft) : PV := .agg [.s f.name, eI f.ver, eL eAx 4 ax0 f.axes, eL eGl 7 gl0 f.gls, eMs f.chars, eL eLk 1 [] f.lks, eTs f.kerns]
def pvS (L : List Int) (k : Int) : Int := if v1 L (n1 L k) 4 = 0 then 0 else if v1 L (n1 L k) 4 = 1 then 64 else if v1 L (n1 L k) 4 = 2 then -64 else v1 L k 129 - 64
def posS (L : List Int) (n : Nat) : List Int := (List.range n).map fun i => pvS L (mk L 0 i)
def lPos (L : List Int) (n : Nat) : Nat → Env → List O → Option LH := fun _ E H =>
 some (mkLA E H [2, 5] [1, 2] (fun z : Nat => [(7, none, vint .i64 z), (6, none, .own 2)]) (fun z => [(1, bxD L (mk L 0 z))]) (fun z => [.arr 3 1 z fun j => vint .i64 ((posS L n).getD j 0)]) (fun z => z ≤ n) (fun z => n - z))
def rePos (L : List Int) : Env → Nat → RH → RH := fun E r R => bif Nat.beq r 6 then (match E.get 7 with
 | some (_, .p (.v (.int _ i))) => { R with hs := [(8, vint .i64 (pvS L (mk L 0 i.toNat)))] }
 | _ => R) else R
def hPos (L : List Int) (n : Nat) : FuncId → FH := fun _ => { sp := List.range 100, reg := fun _ => { sh := none, g := 2 }, pm := pmN, re := rePos L, lp := lPos L n, fr := [1002], rt := [4] }
set_option maxRecDepth 100000 in
theorem pos_ok (f : Ft) (L : List Int) (hL : L.length < 2 ^ 40) (ha : f.axes.length < 2 ^ 20) : Pure Tryz.prog 7 [eFn f, eIs L] (.p (eIs (posS L f.axes.length))) := by
 let K : D → Prop := fun d => endL (.p (eIs (posS L f.axes.length))) d []
 refine pure_byL 20 (hPos L f.axes.length) (p :=
  let a0_3 : PV := PV.v (Value.int IntKind.i64 (0 : Int)); let a0_2 : PV := PV.lst 1 L.length fun (i : Nat) => eI (L.getD i (0 : Int)); let a0_1 : List (Nat × Option Bool × D) := [(2, none, D.ref 0 []), (5, none, D.ref 1 [])]; let a0_0 : List O := [O.box (D.p (PV.agg [PV.s f.name, PV.v (Value.int IntKind.i64 f.ver), PV.lst 4 f.axes.length fun (i : Nat) => eAx (f.axes.getD i ax0), PV.lst 7 f.gls.length fun (i : Nat) => eGl (f.gls.getD i gl0), PV.lst 2 f.chars.length fun (i : Nat) => eR (f.chars.getD i ((0 : Int), (0 : Int))), PV.lst 1 f.lks.length fun (i : Nat) => eLk (f.lks.getD i []), PV.lst 3 f.kerns.length fun (i : Nat) => eT (f.kerns.getD i tn0)]))]; (∃ (x : Nat), x ≤ f.axes.length ∧ (∀ (i : Nat), let a2_0 : D := vint IntKind.i64 ((posS L f.axes.length).getD i (0 : Int)); i < 0 → D.ren (numbered [0, 1, 2] 0) a2_0 = some a2_0) ∧ Int.ofNat 0 = (↑x : Int) ∧ D.p (PV.agg [a0_2, a0_3]) = D.p (eDr L (mk L (0 : Int) x)) ∧ (0 = x ∧ ∀ (j : Nat), let a2_0 : D := vint IntKind.i64 ((posS L f.axes.length).getD j (0 : Int)); j < 0 → a2_0 = a2_0) ∧ a0_1 = a0_1 ∧ a0_0 = a0_0) ∧ ∀ (z : Nat), let a1_8 : Int := mk L (0 : Int) z; let a1_7 : Int := nxK L.length a1_8; let a1_6 : Nat := z + 1; let a1_5 : Int := pvS L (mk L (0 : Int) (↑z : Int).toNat); let a1_4 : Int := nxK L.length a1_7; let a1_3 : Int := nxV L.length a1_8 (L.getD a1_8.toNat (0 : Int)) (129 : Int); let a1_2 : Int := nxV L.length a1_7 (L.getD a1_7.toNat (0 : Int)) (4 : Int); let a1_1 : Nat := a1_2.toNat; let a1_0 : List D := List.map (fun (x : Nat × D) => x.snd) [(0, D.p (PV.v (Value.int IntKind.i64 a1_5)))]; z ≤ f.axes.length → (decide ((↑z : Int) < (↑f.axes.length : Int)) = true → Mut Tryz.prog 20 (eDr L a1_8) [PV.v (Value.int IntKind.i64 (129 : Int))] (PV.agg [a0_2, eI a1_7]) (vint IntKind.i64 a1_3) ∧ Mut Tryz.prog 20 (PV.agg [a0_2, PV.v (Value.int IntKind.i64 a1_7)]) [PV.v (Value.int IntKind.i64 (4 : Int))] (PV.agg [a0_2, eI a1_4]) (vint IntKind.i64 a1_2) ∧ (0 : Int) ≤ a1_2 ∧ a1_2 < (↑4 : Int) ∧ Option.rec default (fun (val : D) => val) (List.map (fun (x : Nat × D) => x.snd) [(0, D.p a0_3), (1, D.p (PV.v (Value.int IntKind.i64 (64 : Int)))), (2, D.p (PV.v (Value.int IntKind.i64 (-64 : Int)))), (3, D.p (PV.v (Value.int IntKind.i64 (IntKind.i64.wrap (a1_3 - (64 : Int))))))])[a1_1]? = vint IntKind.i64 a1_5 ∧ a1_1 < 4 ∧ a1_5 = a1_5 ∧ a1_6 * 8 ≤ 140737488355328 ∧ ∃ (y : Nat), y ≤ f.axes.length ∧ f.axes.length - y < f.axes.length - z ∧ (∀ (i : Nat), let a3_0 : D := appF (fun (j : Nat) => vint IntKind.i64 ((posS L f.axes.length).getD j (0 : Int))) z (fun (j : Nat) => a1_0.getD j default) i; i < a1_6 → D.ren (numbered [0, 1, 5] 0) a3_0 = some a3_0) ∧ IntKind.i64.wrap ((↑z : Int) + (1 : Int)) = (↑y : Int) ∧ D.p (PV.agg [a0_2, PV.v (Value.int IntKind.i64 a1_4)]) = D.p (eDr L (mk L (0 : Int) y)) ∧ (a1_6 = y ∧ ∀ (j : Nat), j < a1_6 → appF (fun (j : Nat) => vint IntKind.i64 ((posS L f.axes.length).getD j (0 : Int))) z (fun (j : Nat) => a1_0.getD j default) j = vint IntKind.i64 ((posS L f.axes.length).getD j (0 : Int))) ∧ a0_1 = a0_1 ∧ a0_0 = a0_0) ∧ (decide ((↑z : Int) < (↑f.axes.length : Int)) = false → (∀ (j : Nat), let a2_0 : D := vint IntKind.i64 ((posS L f.axes.length).getD j (0 : Int)); j < z → a2_0 = D.p a2_0.unP) ∧ K (D.p (PV.lst 1 z fun (j : Nat) => (vint IntKind.i64 ((posS L f.axes.length).getD j (0 : Int))).unP)))) (by kernel_rfl) ?_
 simp only [Int.toNat_natCast, decide_eq_true_eq, decide_eq_false_iff_not, and_true, true_and]
 have hpl : (posS L f.axes.length).length = f.axes.length := by simp [posS]
 have b0 : (0 : Int) ≤ 0 ∧ (0 : Int) ≤ L.length := ⟨by omega, by omega⟩
 refine ⟨⟨0, by omega, fun i h => by omega, rfl, rfl, rfl, fun j h => by omega⟩, fun z hz => ⟨fun h1 => ?_, fun h1 => ⟨fun _ _ => rfl, ?_⟩⟩⟩
 ·have bz := mkb b0 z
  have va : 0 ≤ v1 L (mk L 0 z) 129 ∧ v1 L (mk L 0 z) 129 < 129 := nxV_lt (by omega)
  have vb : 0 ≤ v1 L (n1 L (mk L 0 z)) 4 ∧ v1 L (n1 L (mk L 0 z)) 4 < 4 := nxV_lt (by omega)
  refine ⟨next_ok L _ 129 bz hL (by omega) (by omega), next_ok L _ 4 (nxb bz) hL (by omega) (by omega), vb.1, vb.2, ?_, (by have := vb; show (v1 L (n1 L (mk L 0 z)) 4).toNat < 4; omega), by omega, z + 1, by omega, by omega, fun i _ => ?_, wr64 (by omega) (by omega) (by omega), rfl, rfl, fun j hj => ?_⟩
  ·have ew : IntKind.wrap .i64 (v1 L (mk L 0 z) 129 - 64) = v1 L (mk L 0 z) 129 - 64 := wr64 (by omega) (by omega) rfl
   show (Option.rec default (fun val => val) (List.map (fun x : Nat × D => x.2) [(0, D.p (.v (.int .i64 0))), (1, D.p (.v (.int .i64 64))), (2, D.p (.v (.int .i64 (-64)))), (3, D.p (.v (.int .i64 (IntKind.wrap .i64 (v1 L (mk L 0 z) 129 - 64)))))])[(v1 L (n1 L (mk L 0 z)) 4).toNat]? : D) = vint .i64 (pvS L (mk L 0 z))
   rw [ew, pvS]
   rcases (by omega : v1 L (n1 L (mk L 0 z)) 4 = 0 ∨ v1 L (n1 L (mk L 0 z)) 4 = 1 ∨ v1 L (n1 L (mk L 0 z)) 4 = 2 ∨ v1 L (n1 L (mk L 0 z)) 4 = 3) with h | h | h | h <;> rw [h] <;> rfl
  ·exact app_ren (fun _ => rfl) (fun i => one_ren rfl i) i
  ·exact app_one (n := z) (congrArg (fun q => vint .i64 q) (getD_rm (f := fun i => pvS L (mk L 0 i)) (d := 0) (show z < f.axes.length by omega)).symm) hj
 ·have : z = f.axes.length := by omega
  subst this
  exact ⟨hpl.symm, fun j _ => leP_refl _⟩
theorem posS_len (L : List Int) (n : Nat) : (posS L n).length = n := by simp [posS]
theorem posS_in (L : List Int) (n : Nat) (k : Nat) (h : k < n) : -64 ≤ (posS L n).getD k 0 ∧ (posS L n).getD k 0 ≤ 64 := by
 rw [show (posS L n).getD k 0 = pvS L (mk L 0 k) from getD_rm (f := fun i => pvS L (mk L 0 i)) h]
 have va : 0 ≤ v1 L (mk L 0 k) 129 ∧ v1 L (mk L 0 k) 129 < 129 := nxV_lt (by omega)
 simp only [pvS]
 split
 ·omega
 ·split
  ·omega
  ·split <;> omega
end Go.Proofs.YtekhlnihpfkkkaaGreatDoor
namespace Go.Proofs.YtekhlnihpfkkkaaGreatDoor
open Go.Eng
structure OkO (o : List (List Pt)) : Prop where
 len : o.length ≤ 8
 pts : cnt o ≤ 64
 row : ∀ k, k < o.length → 3 ≤ (o.getD k []).length ∧ ((o.getD k []).getD 0 pt0).2.2 = true ∧ ∀ j, j < (o.getD k []).length → (-512 ≤ ((o.getD k []).getD j pt0).1 ∧ ((o.getD k []).getD j pt0).1 ≤ 512) ∧ -512 ≤ ((o.getD k []).getD j pt0).2.1 ∧ ((o.getD k []).getD j pt0).2.1 ≤ 512
def lIdx : Nat → Env → List O → Option LH := fun _ E H => match E.get 7 with
 | some (_, .p (.v (.int _ n))) => some (mkLH E H [0, 1, 6, 7] [] (fun z : Nat => [(8, none, vint .i64 z)]) (fun _ => []) (fun z => z ≤ n.toNat) (fun z => n.toNat - z))
 | _ => none
def lOck (o : List (List Pt)) : Nat → Env → List O → Option LH := fun _ E H =>
 some (mkLH E H [0, 13, 14] [] (fun z : Nat => [(15, none, vint .i64 z)]) (fun _ => []) (fun z => z ≤ o.length) (fun z => o.length - z))
def hOck (o : List (List Pt)) : FuncId → FH := fun f =>
 bif Nat.beq f 180 then { sp := [16], pc := fun f _ => bif Nat.beq f 11 then some (vint .i64 (cnt o)) else none, lp := lOck o, reg := fun r => bif Nat.beq r 1 then { sh := none, g := 1, hs := [(2, vbool false), (6, vbool false)] } else bif Nat.beq r 6 then { sh := none, g := 1, hs := [(2, vbool false), (8, vbool false)] } else { sh := none, g := 1 } }
 else bif Nat.beq f 194 then { sp := [9], lp := lIdx, reg := fun _ => { sh := none, g := 1 } }
 else { reg := fun _ => { sh := none, g := 1 }, pc := fun f _ => bif Nat.beq f 192 then some (vbool false) else none }
set_option maxRecDepth 100000 in
theorem ock_ok (o : List (List Pt)) (h : OkO o) : Pure Tryz.prog 180 [eO o] (vint .i64 0) := by
 let K : D → Prop := fun d => endL (vint .i64 0) d []
 refine pure_byL 20 (hOck o) (p :=
  let a0_2 : PV := PV.lst 1 o.length fun (i : Nat) => eC (o.getD i []); let a0_1 : Nat × Option Bool × D := (1, none, D.fn 191 [] []); let a0_0 : List (Nat × Option Bool × D) := [(0, none, D.p (eO o)), (13, none, D.p a0_2), (14, none, D.p (PV.v (Value.int IntKind.i64 (↑o.length : Int))))]; decide ((8 : Int) < (↑o.length : Int)) = false ∧ Eng.Pure Tryz.prog 11 [a0_2] (vint IntKind.i64 (↑(cnt o) : Int)) ∧ decide ((64 : Int) < (↑(cnt o) : Int)) = false ∧ (∃ (x : Nat), x ≤ o.length ∧ Int.ofNat 0 = (↑x : Int) ∧ a0_0 = a0_0 ∧ ([] : List O) = []) ∧ ∀ (z : Nat), let a1_5 : List Pt := o.getD (↑z : Int).toNat []; let a1_4 : Nat := a1_5.length; let a1_3 : Int := (↑a1_4 : Int); let a1_2 : Nat := a1_3.toNat; let a1_1 : Option Bool × D := (none, D.p (PV.lst 3 a1_4 fun (i : Nat) => ePt (a1_5.getD i pt0))); let a1_0 : List (Nat × Option Bool × D) := [(0, a1_1), a0_1, (6, a1_1), (7, none, D.p (PV.v (Value.int IntKind.i64 a1_3)))]; z ≤ o.length → (decide ((↑z : Int) < (↑o.length : Int)) = true → (0 : Int) ≤ (↑z : Int) ∧ (↑z : Int) < (↑o.length : Int) ∧ decide (a1_3 < (3 : Int)) = false ∧ (0 : Int) ≤ (0 : Int) ∧ (0 : Int) < a1_3 ∧ (!(a1_5.getD 0 pt0).snd.snd) = false ∧ (∃ (x : Nat), x ≤ a1_2 ∧ Int.ofNat 0 = (↑x : Int) ∧ a1_0 = a1_0 ∧ ([] : List O) = []) ∧ ∀ (z_1 : Nat), let a2_0 : Pt := a1_5.getD (↑z_1 : Int).toNat pt0; z_1 ≤ a1_2 → (decide ((↑z_1 : Int) < a1_3) = true → (0 : Int) ≤ (↑z_1 : Int) ∧ (↑z_1 : Int) < a1_3 ∧ Eng.Pure Tryz.prog 192 [PV.v (Value.int IntKind.i64 a2_0.fst)] (vbool false) ∧ Eng.Pure Tryz.prog 192 [PV.v (Value.int IntKind.i64 a2_0.snd.fst)] (vbool false) ∧ ∃ (y : Nat), y ≤ a1_2 ∧ a1_2 - y < a1_2 - z_1 ∧ IntKind.i64.wrap ((↑z_1 : Int) + (1 : Int)) = (↑y : Int) ∧ a1_0 = a1_0 ∧ ([] : List O) = []) ∧ (decide ((↑z_1 : Int) < a1_3) = false → ∃ (y : Nat), y ≤ o.length ∧ o.length - y < o.length - z ∧ IntKind.i64.wrap ((↑z : Int) + (1 : Int)) = (↑y : Int) ∧ a0_0 = a0_0 ∧ ([] : List O) = [])) ∧ (decide ((↑z : Int) < (↑o.length : Int)) = false → K (D.p (PV.v (Value.int IntKind.i64 (Int.ofNat 0)))))) (by kernel_rfl) ?_
 simp only [Int.toNat_natCast, decide_eq_true_eq, decide_eq_false_iff_not, and_true, true_and]
 have hl := h.len
 have hp := h.pts
 have hfar : ∀ n : Int, -512 ≤ n ∧ n ≤ 512 → Pure Tryz.prog 192 [.v (.int .i64 n)] (vbool false) := fun n hn => by
  have := far_ok n
  rwa [show (decide (n < -512) || decide (512 < n)) = false by simp; omega] at this
 refine ⟨by omega, count_ok o (by omega) (by omega), by omega, ⟨0, by omega, rfl⟩, fun z hz => ⟨fun h1 => ?_, fun _ => leP_refl _⟩⟩
 obtain ⟨r1, r2, r3⟩ := h.row z (by omega)
 have hc := off_lt (o := o) (z := z) (by omega)
 refine ⟨by omega, h1, by omega, by omega, by omega, by rw [r2]; rfl, ⟨0, by omega, rfl⟩, fun y hy => ⟨fun h2 => ?_, fun _ => ⟨z + 1, by omega, by omega, wr64 (by omega) (by omega) (by omega)⟩⟩⟩
 obtain ⟨q1, q2⟩ := r3 y (by omega)
 exact ⟨by omega, h2, hfar _ q1, hfar _ q2, y + 1, by omega, by omega, wr64 (by omega) (by omega) (by omega)⟩
end Go.Proofs.YtekhlnihpfkkkaaGreatDoor
namespace Go.Proofs.YtekhlnihpfkkkaaGreatDoor
open Go.Eng
structure OkD (ds : List Dl) (o : List (List Pt)) (k : Nat) : Prop where
 len : ds.length ≤ 8
 fit : ∀ j, j < ds.length → (ds.getD j dl0).1.length = k ∧ (ds.getD j dl0).1.all validS = true ∧ (ds.getD j dl0).2.length = cnt o
 mvs : ∀ j, j < ds.length → ∀ i, i < (ds.getD j dl0).2.length → (-512 ≤ ((ds.getD j dl0).2.getD i (0, 0)).1 ∧ ((ds.getD j dl0).2.getD i (0, 0)).1 ≤ 512) ∧ -512 ≤ ((ds.getD j dl0).2.getD i (0, 0)).2 ∧ ((ds.getD j dl0).2.getD i (0, 0)).2 ≤ 512
def eRc (r : List Int) : PV := .lst 1 r.length fun j => (nthD (r.map fun x => vint .i64 x) j).unP
def lFsi (g : Gl) : Nat → Env → List O → Option LH := fun _ E H =>
 some (mkLH E H [2, 3, 6, 25, 26] [] (fun z : Nat => [(27, none, vint .i64 z)]) (fun _ => []) (fun z => z ≤ g.del.length) (fun z => g.del.length - z))
def hFsi (g : Gl) (c d : Int) (r : List Int) : FuncId → FH := fun f =>
 bif Nat.beq f 166 then { sp := [28], lp := lFsi g, pc := fun f _ => bif Nat.beq f 180 then some (vint .i64 0) else bif Nat.beq f 11 then some (vint .i64 (cnt g.out)) else bif Nat.beq f 28 then some (vbool true) else bif Nat.beq f 10 then some (.tup [.p (.agg [eI c, eI d, eRc r]), vint .i64 0]) else none, reg := fun r => bif Nat.beq r 4 then { sh := none, g := 1, hs := [(3, vbool false)] } else bif Nat.beq r 10 then { sh := none, g := 1, hs := [(12, vbool false)] } else { sh := none, g := 1 } }
 else bif Nat.beq f 193 then { sp := [9], lp := lIdx, reg := fun _ => { sh := none, g := 1 } }
 else { reg := fun _ => { sh := none, g := 1 }, pc := fun f _ => bif Nat.beq f 171 then some (vbool true) else none }
set_option maxRecDepth 100000 in
theorem fsim_ok (f : Ft) (g : Gl) (c d : Int) (r : List Int) (ho : OkO g.out) (hd : OkD g.del g.out f.axes.length) (ha : f.axes.length < 2 ^ 20) (hv : Pure Tryz.prog 10 [eTs (hpM g.hint), eI (cnt g.out)] (.tup [.p (.agg [eI c, eI d, eRc r]), vint .i64 0])) : Pure Tryz.prog 166 [eFn f, eGl g] (vint .i64 0) := by
 let K : D → Prop := fun x => endL (vint .i64 0) x []
 refine pure_byL 20 (hFsi g c d r) (p :=
  let a0_11 : PV := PV.v (Value.int IntKind.i64 (↑(cnt g.out) : Int)); let a0_10 : List PV := [PV.v (Value.int IntKind.i64 (512 : Int))]; let a0_9 : Int × Int := ((0 : Int), (0 : Int)); let a0_8 : PV := PV.lst 2 g.del.length fun (i : Nat) => eDl (g.del.getD i dl0); let a0_7 : PV := PV.lst 3 (hpM g.hint).length fun (i : Nat) => eT ((hpM g.hint).getD i tn0); let a0_6 : PV := PV.lst 1 g.out.length fun (i : Nat) => eC (g.out.getD i []); let a0_5 : List PV := [a0_6]; let a0_4 : Nat × Option Bool × D := (1, none, D.fn 182 [] []); let a0_3 : O := O.box (D.p (PV.agg [PV.s g.name, PV.v (Value.int IntKind.i64 g.adv), a0_6, a0_8, PV.lst 3 g.parts.length fun (i : Nat) => eT (g.parts.getD i tn0), a0_7, PV.lst 1 g.alts.length fun (i : Nat) => eI (g.alts.getD i (0 : Int))])); let a0_2 : O := O.box (D.p (PV.agg [PV.s f.name, PV.v (Value.int IntKind.i64 f.ver), PV.lst 4 f.axes.length fun (i : Nat) => eAx (f.axes.getD i ax0), PV.lst 7 f.gls.length fun (i : Nat) => eGl (f.gls.getD i gl0), PV.lst 2 f.chars.length fun (i : Nat) => eR (f.chars.getD i a0_9), PV.lst 1 f.lks.length fun (i : Nat) => eLk (f.lks.getD i []), PV.lst 3 f.kerns.length fun (i : Nat) => eT (f.kerns.getD i tn0)])); let a0_1 : List (Nat × Option Bool × D) := [(2, none, D.ref 0 []), (3, none, D.ref 1 []), (6, none, D.p a0_11), (25, none, D.p a0_8), (26, none, D.p (PV.v (Value.int IntKind.i64 (↑g.del.length : Int))))]; let a0_0 : List O := [a0_2, a0_3]; Eng.Pure Tryz.prog 180 a0_5 (vint IntKind.i64 (0 : Int)) ∧ decide ((8 : Int) < (↑g.del.length : Int)) = false ∧ Eng.Pure Tryz.prog 11 a0_5 (vint IntKind.i64 (↑(cnt g.out) : Int)) ∧ (∃ (x : Nat), x ≤ g.del.length ∧ Int.ofNat 0 = (↑x : Int) ∧ a0_1 = a0_1 ∧ a0_0 = a0_0) ∧ ∀ (z : Nat), let a1_10 : Dl := g.del.getD (↑z : Int).toNat dl0; let a1_9 : List Tn := a1_10.fst; let a1_8 : List (Int × Int) := a1_10.snd; let a1_7 : Nat := a1_8.length; let a1_6 : Int := (↑a1_7 : Int); let a1_5 : Nat := a1_6.toNat; let a1_4 : PV := PV.lst 3 a1_9.length fun (i : Nat) => eT (a1_9.getD i tn0); let a1_3 : PV := PV.lst 2 a1_7 fun (i : Nat) => eR (a1_8.getD i a0_9); let a1_2 : Option Bool × D := (none, D.p a1_3); let a1_1 : List O := [a0_2, a0_3, O.box (D.p (PV.agg [a1_4, a1_3]))]; let a1_0 : List (Nat × Option Bool × D) := [(0, a1_2), a0_4, (6, a1_2), (7, none, D.p (PV.v (Value.int IntKind.i64 a1_6)))]; z ≤ g.del.length → (decide ((↑z : Int) < (↑g.del.length : Int)) = true → (0 : Int) ≤ (↑z : Int) ∧ (↑z : Int) < (↑g.del.length : Int) ∧ Eng.Pure Tryz.prog 28 [a1_4, PV.v (Value.int IntKind.i64 (↑f.axes.length : Int))] (vbool true) ∧ (a1_6 != (↑(cnt g.out) : Int)) = false ∧ (∃ (x : Nat), x ≤ a1_5 ∧ Int.ofNat 0 = (↑x : Int) ∧ a1_0 = a1_0 ∧ a1_1 = a1_1) ∧ ∀ (z_1 : Nat), let a2_0 : Int × Int := a1_8.getD (↑z_1 : Int).toNat a0_9; z_1 ≤ a1_5 → (decide ((↑z_1 : Int) < a1_6) = true → (0 : Int) ≤ (↑z_1 : Int) ∧ (↑z_1 : Int) < a1_6 ∧ Eng.Pure Tryz.prog 171 (PV.v (Value.int IntKind.i64 a2_0.fst) :: a0_10) (vbool true) ∧ Eng.Pure Tryz.prog 171 (PV.v (Value.int IntKind.i64 a2_0.snd) :: a0_10) (vbool true) ∧ ∃ (y : Nat), y ≤ a1_5 ∧ a1_5 - y < a1_5 - z_1 ∧ IntKind.i64.wrap ((↑z_1 : Int) + (1 : Int)) = (↑y : Int) ∧ a1_0 = a1_0 ∧ a1_1 = a1_1) ∧ (decide ((↑z_1 : Int) < a1_6) = false → ∃ (y : Nat), y ≤ g.del.length ∧ g.del.length - y < g.del.length - z ∧ IntKind.i64.wrap ((↑z : Int) + (1 : Int)) = (↑y : Int) ∧ a0_1 = a0_1 ∧ a0_0 = a0_0)) ∧ (decide ((↑z : Int) < (↑g.del.length : Int)) = false → Eng.Pure Tryz.prog 10 [a0_7, a0_11] (D.tup [D.p (PV.agg [eI c, eI d, eRc r]), vint IntKind.i64 (0 : Int)]) ∧ K (D.p (PV.v (Value.int IntKind.i64 (0 : Int)))))) (by kernel_rfl) ?_
 simp only [Int.toNat_natCast, decide_eq_true_eq, decide_eq_false_iff_not, and_true, true_and]
 have hl := hd.len
 have hp := ho.pts
 have hw : ∀ n : Int, -512 ≤ n ∧ n ≤ 512 → Pure Tryz.prog 171 [.v (.int .i64 n), .v (.int .i64 512)] (vbool true) := fun n hn => by
  have := within_ok n 512
  rwa [show (decide (IntKind.wrap .i64 (0 - 512) ≤ n) && decide (n ≤ 512)) = true by
   rw [show IntKind.wrap .i64 (0 - 512) = -512 from by decide]; simp; omega] at this
 refine ⟨ock_ok _ ho, by omega, count_ok _ (by have := ho.len; omega) (by omega), ⟨0, by omega, rfl⟩, fun z hz => ⟨fun h1 => ?_, fun _ => ⟨hv, leP_refl _⟩⟩⟩
 obtain ⟨f1, f2, f3⟩ := hd.fit z (by omega)
 have hm := hd.mvs z (by omega)
 have hfit := fits_ok (g.del.getD z dl0).1 f.axes.length (by omega)
 rw [show (decide (((g.del.getD z dl0).1.length : Int) = f.axes.length) && (g.del.getD z dl0).1.all validS) = true by rw [f2, f1]; simp] at hfit
 refine ⟨by omega, h1, hfit, by rw [f3]; simp, ⟨0, by omega, rfl⟩, fun y hy => ⟨fun h2 => ?_, fun _ => ⟨z + 1, by omega, by omega, wr64 (by omega) (by omega) (by omega)⟩⟩⟩
 obtain ⟨q1, q2⟩ := hm y (by omega)
 exact ⟨by omega, h2, hw _ q1, hw _ q2, y + 1, by omega, by omega, wr64 (by omega) (by omega) (by omega)⟩
end Go.Proofs.YtekhlnihpfkkkaaGreatDoor
namespace Go.Proofs.YtekhlnihpfkkkaaGreatDoor
open Go.Eng
def hInd : FuncId → FH := fun f =>
 bif Nat.beq f 69 then { sp := [9], lp := lIdx, reg := fun _ => { sh := none, g := 1 } }
 else bif Nat.beq f 183 then { reg := fun r => bif Nat.beq r 1 then { sh := none, g := 1, hs := [(1, vbool false), (7, vbool false)] } else { sh := none, g := 1 } }
 else { reg := fun _ => { sh := none, g := 1 } }
set_option maxRecDepth 100000 in
theorem ind_ok (f : Ft) (l : List Int) (hl : l.length < 2 ^ 40) (h : ∀ k, k < l.length → 0 ≤ l.getD k 0 ∧ l.getD k 0 < f.gls.length) : Pure Tryz.prog 167 [eFn f, eIs l] (vbool true) := by
 let K : D → Prop := fun x => endL (vbool true) x []
 refine pure_byL 20 hInd (p :=
  let a0_2 : Option Bool × D := (none, D.p (PV.lst 1 l.length fun (i : Nat) => eI (l.getD i (0 : Int)))); let a0_1 : List O := [O.box (D.p (PV.agg [PV.s f.name, PV.v (Value.int IntKind.i64 f.ver), PV.lst 4 f.axes.length fun (i : Nat) => eAx (f.axes.getD i ax0), PV.lst 7 f.gls.length fun (i : Nat) => eGl (f.gls.getD i gl0), PV.lst 2 f.chars.length fun (i : Nat) => eR (f.chars.getD i ((0 : Int), (0 : Int))), PV.lst 1 f.lks.length fun (i : Nat) => eLk (f.lks.getD i []), PV.lst 3 f.kerns.length fun (i : Nat) => eT (f.kerns.getD i tn0)]))]; let a0_0 : List (Nat × Option Bool × D) := [(0, a0_2), (1, none, D.fn 183 [] [D.ref 0 []]), (6, a0_2), (7, none, D.p (PV.v (Value.int IntKind.i64 (↑l.length : Int))))]; (∃ (x : Nat), x ≤ (↑l.length : Int).toNat ∧ Int.ofNat 0 = (↑x : Int) ∧ a0_0 = a0_0 ∧ a0_1 = a0_1) ∧ ∀ (z : Nat), let a1_0 : Int := l.getD (↑z : Int).toNat (0 : Int); z ≤ (↑l.length : Int).toNat → (decide ((↑z : Int) < (↑l.length : Int)) = true → (0 : Int) ≤ (↑z : Int) ∧ (↑z : Int) < (↑l.length : Int) ∧ decide (a1_0 < (0 : Int)) = false ∧ decide ((↑f.gls.length : Int) ≤ a1_0) = false ∧ ∃ (y : Nat), y ≤ (↑l.length : Int).toNat ∧ (↑l.length : Int).toNat - y < (↑l.length : Int).toNat - z ∧ IntKind.i64.wrap ((↑z : Int) + (1 : Int)) = (↑y : Int) ∧ a0_0 = a0_0 ∧ a0_1 = a0_1) ∧ (decide ((↑z : Int) < (↑l.length : Int)) = false → K (D.p (PV.v (Value.bool !decide ((0 : Int) ≤ Int.negSucc 0)))))) (by kernel_rfl) ?_
 simp only [Int.toNat_natCast, decide_eq_true_eq, decide_eq_false_iff_not, and_true, true_and]
 refine ⟨⟨0, by omega, rfl⟩, fun z hz => ⟨fun h1 => ?_, fun _ => leP_refl _⟩⟩
 have := h z (by omega)
 exact ⟨by omega, h1, by omega, by omega, z + 1, by omega, by omega, wr64 (by omega) (by omega) (by omega)⟩
theorem pure_le {P : Program} {f : FuncId} {args : List PV} {d d' : D} (h : Pure P f args d) (hd : leT d d') : Pure P f args d' := by
 intro F w vs hsub hglob hlen hrel
 refine (h F w vs hsub hglob hlen hrel).mono ?_
 rintro e w' ⟨v, F', k1, k2, k3, k4, k5⟩
 exact ⟨v, F', k1, k2, k3, k4, leT_rel hd k5⟩
end Go.Proofs.YtekhlnihpfkkkaaGreatDoor
namespace Go.Proofs.YtekhlnihpfkkkaaGreatDoor
open Go.Eng
structure OkKn (l : List Tn) (n : Nat) : Prop where
 len : l.length ≤ 64
 row : ∀ k, k < l.length → (0 ≤ (l.getD k tn0).1 ∧ (l.getD k tn0).1 < n) ∧ (0 ≤ (l.getD k tn0).2.1 ∧ (l.getD k tn0).2.1 < n) ∧ -64 ≤ (l.getD k tn0).2.2 ∧ (l.getD k tn0).2.2 ≤ 64
 ord : ∀ k, k + 1 < l.length → (l.getD k tn0).1 < (l.getD (k + 1) tn0).1 ∨ (l.getD k tn0).1 = (l.getD (k + 1) tn0).1 ∧ (l.getD k tn0).2.1 < (l.getD (k + 1) tn0).2.1
def lKn (l : List Tn) : Nat → Env → List O → Option LH := fun _ E H =>
 some (mkLH E H [1, 10, 11] [] (fun z : Nat => [(12, none, vint .i64 z)]) (fun _ => []) (fun z => z ≤ l.length) (fun z => l.length - z))
def hKn (l : List Tn) : FuncId → FH := fun f =>
 bif Nat.beq f 161 then { sp := [13], lp := lKn l, pc := fun f _ => bif Nat.beq f 171 then some (vbool true) else none, reg := fun r => bif Nat.beq r 1 then { sh := none, g := 1, hs := [(3, vbool false)] } else bif Nat.beq r 8 then { sh := none, g := 1, hs := [(37, vbool false)] } else { sh := none, g := 1 } }
 else bif Nat.beq f 183 then { reg := fun r => bif Nat.beq r 1 then { sh := none, g := 1, hs := [(1, vbool false), (7, vbool false)] } else { sh := none, g := 1 } }
 else { rounds := 4, reg := fun _ => { sh := none, g := 1 } }
theorem andd {p : Prop} [Decidable p] {b : Bool} (h : (decide p && b) = true) : p := by
 simp at h; exact h.1
theorem andd2 {p : Prop} [Decidable p] {b c : Bool} (h : ((decide p && b) && c) = true) : p := by
 simp at h; exact h.1.1
set_option maxRecDepth 100000 in
theorem kern_ok (f : Ft) (h : OkKn f.kerns f.gls.length) : Pure Tryz.prog 161 [eFn f] (vint .i64 0) := by
 let K : D → Prop := fun x => endL (vint .i64 0) x []
 refine pure_byL 20 (hKn f.kerns) (p :=
  let a0_3 : Int := (↑2 : Int); let a0_2 : PV := PV.lst 3 f.kerns.length fun (i : Nat) => eT (f.kerns.getD i tn0); let a0_1 : List (Nat × Option Bool × D) := [(1, none, D.ref 0 []), (10, none, D.p a0_2), (11, none, D.p (PV.v (Value.int IntKind.i64 (↑f.kerns.length : Int))))]; let a0_0 : List O := [O.box (D.p (PV.agg [PV.s f.name, PV.v (Value.int IntKind.i64 f.ver), PV.lst 4 f.axes.length fun (i : Nat) => eAx (f.axes.getD i ax0), PV.lst 7 f.gls.length fun (i : Nat) => eGl (f.gls.getD i gl0), PV.lst 2 f.chars.length fun (i : Nat) => eR (f.chars.getD i ((0 : Int), (0 : Int))), PV.lst 1 f.lks.length fun (i : Nat) => eLk (f.lks.getD i []), a0_2]))]; decide ((64 : Int) < (↑f.kerns.length : Int)) = false ∧ (∃ (x : Nat), x ≤ f.kerns.length ∧ Int.ofNat 0 = (↑x : Int) ∧ a0_1 = a0_1 ∧ a0_0 = a0_0) ∧ ∀ (z : Nat), let a1_7 : Tn := f.kerns.getD (↑z : Int).toNat tn0; let a1_6 : Int × Int := a1_7.snd; let a1_5 : Int := a1_7.fst; let a1_4 : Int := IntKind.i64.wrap ((↑z : Int) - (1 : Int)); let a1_3 : Int := a1_6.fst; let a1_2 : Tn := f.kerns.getD a1_4.toNat tn0; let a1_1 : Int := a1_2.fst; let a1_0 : Int := a1_2.snd.fst; z ≤ f.kerns.length → (decide ((↑z : Int) < (↑f.kerns.length : Int)) = true → (0 : Int) ≤ (↑z : Int) ∧ (↑z : Int) < (↑f.kerns.length : Int) ∧ (0 : Int) ≤ Int.ofNat 0 ∧ Int.ofNat 0 < a0_3 ∧ 0 < 2 ∧ decide (a1_5 < (0 : Int)) = false ∧ decide ((↑f.gls.length : Int) ≤ a1_5) = false ∧ (0 : Int) ≤ Int.ofNat 1 ∧ Int.ofNat 1 < a0_3 ∧ 1 < 2 ∧ decide (a1_3 < (0 : Int)) = false ∧ decide ((↑f.gls.length : Int) ≤ a1_3) = false ∧ Eng.Pure Tryz.prog 171 [PV.v (Value.int IntKind.i64 a1_6.snd), PV.v (Value.int IntKind.i64 (64 : Int))] (vbool true) ∧ (decide ((0 : Int) < (↑z : Int)) = true → decide ((0 : Int) < (↑z : Int)) = true) ∧ (decide ((0 : Int) < (↑z : Int)) = true → decide ((0 : Int) < (↑z : Int)) = true) ∧ (decide ((0 : Int) < (↑z : Int)) = true → decide ((0 : Int) < (↑z : Int)) = true) ∧ (decide ((0 : Int) < (↑z : Int)) = true → decide ((0 : Int) < (↑z : Int)) = true) ∧ (decide ((0 : Int) < (↑z : Int)) = true → decide ((0 : Int) < (↑z : Int)) = true) ∧ (decide ((0 : Int) < (↑z : Int)) = true → (0 : Int) ≤ a1_4) ∧ (decide ((0 : Int) < (↑z : Int)) = true → a1_4 < (↑f.kerns.length : Int)) ∧ (decide ((0 : Int) < (↑z : Int)) = true → decide ((0 : Int) < (↑z : Int)) = true) ∧ (decide ((0 : Int) < (↑z : Int)) = true → decide ((0 : Int) < (↑z : Int)) = true) ∧ (decide ((0 : Int) < (↑z : Int)) = true → decide ((0 : Int) < (↑z : Int)) = true) ∧ (decide ((0 : Int) < (↑z : Int)) = true → decide ((0 : Int) < (↑z : Int)) = true) ∧ (decide ((0 : Int) < (↑z : Int)) = true → decide ((0 : Int) < (↑z : Int)) = true) ∧ ((decide ((0 : Int) < (↑z : Int)) && !decide (a1_5 < a1_1)) = true → (decide ((0 : Int) < (↑z : Int)) && !decide (a1_5 < a1_1)) = true) ∧ ((decide ((0 : Int) < (↑z : Int)) && !decide (a1_5 < a1_1)) = true → (decide ((0 : Int) < (↑z : Int)) && !decide (a1_5 < a1_1)) = true) ∧ ((decide ((0 : Int) < (↑z : Int)) && !decide (a1_5 < a1_1)) = true → (decide ((0 : Int) < (↑z : Int)) && !decide (a1_5 < a1_1)) = true) ∧ ((decide ((0 : Int) < (↑z : Int)) && !decide (a1_5 < a1_1)) = true → (decide ((0 : Int) < (↑z : Int)) && !decide (a1_5 < a1_1)) = true) ∧ ((decide ((0 : Int) < (↑z : Int)) && !decide (a1_5 < a1_1)) = true → (decide ((0 : Int) < (↑z : Int)) && !decide (a1_5 < a1_1)) = true) ∧ ((decide ((0 : Int) < (↑z : Int)) && !decide (a1_5 < a1_1)) = true → (0 : Int) ≤ a1_4) ∧ ((decide ((0 : Int) < (↑z : Int)) && !decide (a1_5 < a1_1)) = true → a1_4 < (↑f.kerns.length : Int)) ∧ ((decide ((0 : Int) < (↑z : Int)) && !decide (a1_5 < a1_1)) = true → (decide ((0 : Int) < (↑z : Int)) && !decide (a1_5 < a1_1)) = true) ∧ ((decide ((0 : Int) < (↑z : Int)) && !decide (a1_5 < a1_1)) = true → (decide ((0 : Int) < (↑z : Int)) && !decide (a1_5 < a1_1)) = true) ∧ ((decide ((0 : Int) < (↑z : Int)) && !decide (a1_5 < a1_1)) = true → (decide ((0 : Int) < (↑z : Int)) && !decide (a1_5 < a1_1)) = true) ∧ ((decide ((0 : Int) < (↑z : Int)) && !decide (a1_5 < a1_1)) = true → (decide ((0 : Int) < (↑z : Int)) && !decide (a1_5 < a1_1)) = true) ∧ ((decide ((0 : Int) < (↑z : Int)) && !decide (a1_5 < a1_1)) = true → (decide ((0 : Int) < (↑z : Int)) && !decide (a1_5 < a1_1)) = true) ∧ ((decide ((0 : Int) < (↑z : Int)) && !decide (a1_5 < a1_1) && a1_5 == a1_1) = true → (decide ((0 : Int) < (↑z : Int)) && !decide (a1_5 < a1_1) && a1_5 == a1_1) = true) ∧ ((decide ((0 : Int) < (↑z : Int)) && !decide (a1_5 < a1_1) && a1_5 == a1_1) = true → (decide ((0 : Int) < (↑z : Int)) && !decide (a1_5 < a1_1) && a1_5 == a1_1) = true) ∧ ((decide ((0 : Int) < (↑z : Int)) && !decide (a1_5 < a1_1) && a1_5 == a1_1) = true → (decide ((0 : Int) < (↑z : Int)) && !decide (a1_5 < a1_1) && a1_5 == a1_1) = true) ∧ ((decide ((0 : Int) < (↑z : Int)) && !decide (a1_5 < a1_1) && a1_5 == a1_1) = true → (decide ((0 : Int) < (↑z : Int)) && !decide (a1_5 < a1_1) && a1_5 == a1_1) = true) ∧ ((decide ((0 : Int) < (↑z : Int)) && !decide (a1_5 < a1_1) && a1_5 == a1_1) = true → (decide ((0 : Int) < (↑z : Int)) && !decide (a1_5 < a1_1) && a1_5 == a1_1) = true) ∧ ((decide ((0 : Int) < (↑z : Int)) && !decide (a1_5 < a1_1) && a1_5 == a1_1) = true → (0 : Int) ≤ a1_4) ∧ ((decide ((0 : Int) < (↑z : Int)) && !decide (a1_5 < a1_1) && a1_5 == a1_1) = true → a1_4 < (↑f.kerns.length : Int)) ∧ ((decide ((0 : Int) < (↑z : Int)) && !decide (a1_5 < a1_1) && a1_5 == a1_1) = true → (decide ((0 : Int) < (↑z : Int)) && !decide (a1_5 < a1_1) && a1_5 == a1_1) = true) ∧ ((decide ((0 : Int) < (↑z : Int)) && !decide (a1_5 < a1_1) && a1_5 == a1_1) = true → (decide ((0 : Int) < (↑z : Int)) && !decide (a1_5 < a1_1) && a1_5 == a1_1) = true) ∧ ((decide ((0 : Int) < (↑z : Int)) && !decide (a1_5 < a1_1) && a1_5 == a1_1) = true → (decide ((0 : Int) < (↑z : Int)) && !decide (a1_5 < a1_1) && a1_5 == a1_1) = true) ∧ ((decide ((0 : Int) < (↑z : Int)) && !decide (a1_5 < a1_1) && a1_5 == a1_1) = true → (decide ((0 : Int) < (↑z : Int)) && !decide (a1_5 < a1_1) && a1_5 == a1_1) = true) ∧ ((decide ((0 : Int) < (↑z : Int)) && !decide (a1_5 < a1_1)) = true → (decide ((0 : Int) < (↑z : Int)) && !decide (a1_5 < a1_1)) = true → (decide ((0 : Int) < (↑z : Int)) && !decide (a1_5 < a1_1)) = true) ∧ ((decide ((0 : Int) < (↑z : Int)) && !decide (a1_5 < a1_1) && a1_5 == a1_1) = true → (decide ((0 : Int) < (↑z : Int)) && !decide (a1_5 < a1_1) && a1_5 == a1_1) = true) ∧ (decide ((0 : Int) < (↑z : Int)) = true → decide ((0 : Int) < (↑z : Int)) = true → decide ((0 : Int) < (↑z : Int)) = true) ∧ ((decide ((0 : Int) < (↑z : Int)) && !decide (a1_5 < a1_1)) = true → (decide ((0 : Int) < (↑z : Int)) && !decide (a1_5 < a1_1)) = true) ∧ (decide ((0 : Int) < (↑z : Int)) = true → decide ((0 : Int) < (↑z : Int)) = true) ∧ (bif decide ((0 : Int) < (↑z : Int)) then bif decide (a1_5 < a1_1) then true else bif a1_5 == a1_1 then decide (a1_3 ≤ a1_0) else false else false) = false ∧ ∃ (y : Nat), y ≤ f.kerns.length ∧ f.kerns.length - y < f.kerns.length - z ∧ IntKind.i64.wrap ((↑z : Int) + (1 : Int)) = (↑y : Int) ∧ a0_1 = a0_1 ∧ a0_0 = a0_0) ∧ (decide ((↑z : Int) < (↑f.kerns.length : Int)) = false → K (D.p (PV.v (Value.int IntKind.i64 (Int.ofNat 0)))))) (by kernel_rfl) ?_
 simp only [Int.toNat_natCast, decide_eq_true_eq, decide_eq_false_iff_not, and_true, true_and]
 have hl := h.len
 have hw : ∀ n : Int, -64 ≤ n ∧ n ≤ 64 → Pure Tryz.prog 171 [.v (.int .i64 n), .v (.int .i64 64)] (vbool true) := fun n hn => by
  have := within_ok n 64
  rwa [show (decide (IntKind.wrap .i64 (0 - 64) ≤ n) && decide (n ≤ 64)) = true by
   rw [show IntKind.wrap .i64 (0 - 64) = -64 from by decide]; simp; omega] at this
 refine ⟨by omega, ⟨0, by omega, rfl⟩, fun z hz => ⟨fun h1 => ?_, fun _ => leP_refl _⟩⟩
 obtain ⟨r1, r2, r3⟩ := h.row z (by omega)
 have d1 : ¬ (f.kerns.getD z tn0).1 < 0 := by omega
 have d2 : ¬ (f.gls.length : Int) ≤ (f.kerns.getD z tn0).1 := by omega
 have d3 : ¬ (f.kerns.getD z tn0).2.1 < 0 := by omega
 have d4 : ¬ (f.gls.length : Int) ≤ (f.kerns.getD z tn0).2.1 := by omega
 have z0 : (0 : Int) ≤ z := by omega
 have i1 : (0 : Int) ≤ Int.ofNat 0 := by decide
 have i2 : Int.ofNat 0 < (2 : Int) := by decide
 have i3 : (0 : Int) ≤ Int.ofNat 1 := by decide
 have i4 : Int.ofNat 1 < (2 : Int) := by decide
 have e1 : 0 < (z : Int) → 0 ≤ IntKind.wrap .i64 ((z : Int) - 1) := fun hp => by
  rw [show IntKind.wrap .i64 ((z : Int) - 1) = (z : Int) - 1 from wr64 (by omega) (by omega) rfl]; omega
 have e2 : 0 < (z : Int) → IntKind.wrap .i64 ((z : Int) - 1) < f.kerns.length := fun hp => by
  rw [show IntKind.wrap .i64 ((z : Int) - 1) = (z : Int) - 1 from wr64 (by omega) (by omega) rfl]; omega
 have hz1 : ∃ y, y ≤ f.kerns.length ∧ f.kerns.length - y < f.kerns.length - z ∧ IntKind.wrap .i64 ((z : Int) + 1) = (y : Int) := ⟨z + 1, by omega, by omega, wr64 (by omega) (by omega) (by omega)⟩
 repeat' first | exact hz1 | exact z0 | exact h1 | exact i1 | exact i2 | exact i3 | exact i4 | exact d1 | exact d2 | exact d3 | exact d4 | exact hw _ r3 | exact e1 | exact e2 | exact fun h => h | exact fun _ h => h | exact fun h => e1 (andd h) | exact fun h => e2 (andd h) | exact fun h => e1 (andd2 h) | exact fun h => e2 (andd2 h) | exact Nat.zero_lt_two | exact Nat.one_lt_two | refine And.intro ?_ ?_
 rcases Nat.eq_zero_or_pos z with rfl | hp
 ·rfl
 ·rw [show IntKind.wrap .i64 ((z : Int) - 1) = (z : Int) - 1 from wr64 (by omega) (by omega) rfl, show ((z : Int) - 1).toNat = z - 1 by omega]
  have ho := h.ord (z - 1) (by omega)
  rw [show z - 1 + 1 = z by omega] at ho
  have n1 : decide ((f.kerns.getD z tn0).1 < (f.kerns.getD (z - 1) tn0).1) = false := decide_eq_false (by omega)
  rw [n1, cond_false]
  rcases ho with ho | ⟨ho, ho2⟩
  ·have n2 : ((f.kerns.getD z tn0).1 == (f.kerns.getD (z - 1) tn0).1) = false := beq_eq_false_iff_ne.2 (by omega)
   rw [n2, cond_false]
   cases decide (0 < (z : Int)) <;> rfl
  ·have n3 : decide ((f.kerns.getD z tn0).2.1 ≤ (f.kerns.getD (z - 1) tn0).2.1) = false := decide_eq_false (by omega)
   rw [n3]
   cases decide (0 < (z : Int)) <;> cases ((f.kerns.getD z tn0).1 == (f.kerns.getD (z - 1) tn0).1) <;> rfl
end Go.Proofs.YtekhlnihpfkkkaaGreatDoor
namespace Go.Proofs.YtekhlnihpfkkkaaGreatDoor
open Go.Eng
def allIn (l : List Int) (n : Nat) : Prop := ∀ k, k < l.length → 0 ≤ l.getD k 0 ∧ l.getD k 0 < n
structure OkSb (s : Sb) (n : Nat) : Prop where
 f1 : 1 ≤ s.frm.length
 f2 : s.frm.length ≤ 3
 b2 : s.before.length ≤ 2
 a2 : s.after.length ≤ 2
 fi : allIn s.frm n
 bi : allIn s.before n
 ai : allIn s.after n
 ti : 0 ≤ s.to ∧ s.to < n
structure OkLk (l : List (List Sb)) (n : Nat) : Prop where
 len : l.length ≤ 4
 row : ∀ k, k < l.length → (l.getD k []).length ≤ 24 ∧ ∀ j, j < (l.getD k []).length → OkSb ((l.getD k []).getD j sb0) n
def lLk (l : List (List Sb)) : Nat → Env → List O → Option LH := fun r E H =>
 bif Nat.beq r 4 then some (mkLH E H [1, 18, 19] [] (fun z : Nat => [(20, none, vint .i64 z)]) (fun _ => []) (fun z => z ≤ l.length) (fun z => l.length - z))
 else match E.get 26 with
 | some (_, .p (.v (.int _ n))) => some (mkLH E H [1, 18, 19, 20, 25, 26] [] (fun z : Nat => [(27, none, vint .i64 z)]) (fun _ => []) (fun z => z ≤ n.toNat) (fun z => n.toNat - z))
 | _ => none
def hLk (l : List (List Sb)) : FuncId → FH := fun f =>
 bif Nat.beq f 160 then { sp := [21, 28], lp := lLk l, pc := fun f _ => bif Nat.beq f 167 then some (vbool true) else none, reg := fun r => bif Nat.beq r 1 then { sh := none, g := 1, hs := [(3, vbool false)] } else bif Nat.beq r 9 then { sh := none, g := 1, hs := [(3, vbool true), (8, vbool true), (14, vbool true), (20, vbool true)] } else { sh := none, g := 1 } }
 else bif Nat.beq f 183 then { reg := fun r => bif Nat.beq r 1 then { sh := none, g := 1, hs := [(1, vbool false), (7, vbool false)] } else { sh := none, g := 1 } }
 else bif Nat.beq f 170 then { reg := fun r => bif Nat.beq r 1 then { sh := none, g := 1, hs := [(3, vbool false)] } else { sh := none, g := 1 } }
 else bif Nat.beq f 185 then { sp := [9], lp := lIdx, reg := fun _ => { sh := none, g := 1 } }
 else { rounds := 4, reg := fun _ => { sh := none, g := 1 } }
set_option maxRecDepth 100000 in
theorem lks_ok (f : Ft) (h : OkLk f.lks f.gls.length) : Pure Tryz.prog 160 [eFn f] (vint .i64 0) := by
 let K : D → Prop := fun x => endL (vint .i64 0) x []
 refine pure_byL 20 (hLk f.lks) (p :=
  let a0_12 : Int := (↑f.lks.length : Int); let a0_11 : Nat := a0_12.toNat; let a0_10 : Option Bool × D := (none, D.p (PV.v (Value.int IntKind.i64 a0_12))); let a0_9 : PV := PV.lst 1 f.lks.length fun (i : Nat) => eLk (f.lks.getD i []); let a0_8 : Nat × Option Bool × D := (1, none, D.ref 0 []); let a0_7 : Option Bool × D := (none, D.p a0_9); let a0_6 : Nat × Option Bool × D := (19, a0_10); let a0_5 : Nat × Option Bool × D := (18, a0_7); let a0_4 : List (Nat × Option Bool × D) := [a0_8, a0_5, a0_6]; let a0_3 : PV := PV.agg [PV.s f.name, PV.v (Value.int IntKind.i64 f.ver), PV.lst 4 f.axes.length fun (i : Nat) => eAx (f.axes.getD i ax0), PV.lst 7 f.gls.length fun (i : Nat) => eGl (f.gls.getD i gl0), PV.lst 2 f.chars.length fun (i : Nat) => eR (f.chars.getD i ((0 : Int), (0 : Int))), a0_9, PV.lst 3 f.kerns.length fun (i : Nat) => eT (f.kerns.getD i tn0)]; let a0_2 : O := O.box (D.p a0_3); let a0_1 : List O := [a0_2]; let a0_0 : List (Nat × Option Bool × D) := [(0, a0_7), (1, none, D.fn 170 [] []), (6, a0_7), (7, a0_10)]; decide ((4 : Int) < a0_12) = false ∧ (∃ (x : Nat), x ≤ a0_11 ∧ Int.ofNat 0 = (↑x : Int) ∧ a0_0 = a0_0 ∧ a0_1 = a0_1) ∧ ∀ (z : Nat), let a1_0 : Int := (↑(f.lks.getD (↑z : Int).toNat []).length : Int); z ≤ a0_11 → (decide ((↑z : Int) < a0_12) = true → (0 : Int) ≤ (↑z : Int) ∧ (↑z : Int) < a0_12 ∧ decide ((24 : Int) < a1_0) = false ∧ ∃ (y : Nat), y ≤ a0_11 ∧ a0_11 - y < a0_11 - z ∧ IntKind.i64.wrap ((↑z : Int) + (1 : Int)) = (↑y : Int) ∧ a0_0 = a0_0 ∧ a0_1 = a0_1) ∧ (decide ((↑z : Int) < a0_12) = false → (∃ (x : Nat), x ≤ f.lks.length ∧ Int.ofNat 0 = (↑x : Int) ∧ a0_4 = a0_4 ∧ a0_1 = a0_1) ∧ ∀ (z : Nat), let a2_8 : List Sb := f.lks.getD (↑z : Int).toNat []; let a2_7 : Nat := a2_8.length; let a2_6 : Int := (↑a2_7 : Int); let a2_5 : Nat := a2_6.toNat; let a2_4 : PV := PV.lst 4 a2_7 fun (i : Nat) => eSb (a2_8.getD i sb0); let a2_3 : List O := [a0_2, O.box (D.p (PV.agg [a2_4]))]; let a2_2 : List (Nat × Option Bool × D) := [(25, none, D.p a2_4), (26, none, D.p (PV.v (Value.int IntKind.i64 a2_6)))]; let a2_1 : List (Nat × Option Bool × D) := a0_8 :: a0_5 :: a0_6 :: (20, none, vint IntKind.i64 (↑z : Int)) :: a2_2; let a2_0 : List (Nat × Option Bool × D) := a0_8 :: a0_5 :: a0_6 :: (20, none, D.p (PV.v (Value.int IntKind.i64 (↑z : Int)))) :: a2_2; z ≤ f.lks.length → (decide ((↑z : Int) < a0_12) = true → (0 : Int) ≤ (↑z : Int) ∧ (↑z : Int) < a0_12 ∧ (∃ (x : Nat), x ≤ a2_5 ∧ Int.ofNat 0 = (↑x : Int) ∧ a2_0 = a2_1 ∧ a2_3 = a2_3) ∧ ∀ (z_1 : Nat), let a3_9 : Int := (a2_8.getD (↑z_1 : Int).toNat sb0).to; let a3_8 : List Int := (a2_8.getD (↑z_1 : Int).toNat sb0).before; let a3_7 : List Int := (a2_8.getD (↑z_1 : Int).toNat sb0).frm; let a3_6 : List Int := (a2_8.getD (↑z_1 : Int).toNat sb0).after; let a3_5 : Nat := a3_6.length; let a3_4 : Nat := a3_8.length; let a3_3 : Nat := a3_7.length; let a3_2 : Int := (↑a3_4 : Int); let a3_1 : Int := (↑a3_3 : Int); let a3_0 : Int := (↑a3_5 : Int); z_1 ≤ a2_5 → (decide ((↑z_1 : Int) < a2_6) = true → (0 : Int) ≤ (↑z_1 : Int) ∧ (↑z_1 : Int) < a2_6 ∧ decide ((1 : Int) ≤ a3_1) = true ∧ decide (a3_1 ≤ (3 : Int)) = true ∧ decide (a3_2 ≤ (2 : Int)) = true ∧ decide (a3_0 ≤ (2 : Int)) = true ∧ Eng.Pure Tryz.prog 167 [a0_3, PV.lst 1 a3_3 fun (i : Nat) => eI (a3_7.getD i (0 : Int))] (vbool true) ∧ Eng.Pure Tryz.prog 167 [a0_3, PV.lst 1 a3_4 fun (i : Nat) => eI (a3_8.getD i (0 : Int))] (vbool true) ∧ Eng.Pure Tryz.prog 167 [a0_3, PV.lst 1 a3_5 fun (i : Nat) => eI (a3_6.getD i (0 : Int))] (vbool true) ∧ (0 : Int) ≤ Int.ofNat 0 ∧ Int.ofNat 0 < (↑1 : Int) ∧ 0 < 1 ∧ decide (a3_9 < (0 : Int)) = false ∧ decide ((↑f.gls.length : Int) ≤ a3_9) = false ∧ ∃ (y : Nat), y ≤ a2_5 ∧ a2_5 - y < a2_5 - z_1 ∧ IntKind.i64.wrap ((↑z_1 : Int) + (1 : Int)) = (↑y : Int) ∧ a2_0 = a2_1 ∧ a2_3 = a2_3) ∧ (decide ((↑z_1 : Int) < a2_6) = false → ∃ (y : Nat), y ≤ f.lks.length ∧ f.lks.length - y < f.lks.length - z ∧ IntKind.i64.wrap ((↑z : Int) + (1 : Int)) = (↑y : Int) ∧ a0_4 = a0_4 ∧ a0_1 = a0_1)) ∧ (decide ((↑z : Int) < a0_12) = false → K (D.p (PV.v (Value.int IntKind.i64 (Int.ofNat 0))))))) (by kernel_rfl) ?_
 simp only [Int.toNat_natCast, decide_eq_true_eq, decide_eq_false_iff_not, and_true, true_and]
 have hl := h.len
 refine ⟨by omega, ⟨0, by omega, rfl⟩, fun z hz => ⟨fun h1 => ?_, fun _ => ⟨⟨0, by omega, rfl⟩, fun z hz => ⟨fun h1 => ?_, fun _ => leP_refl _⟩⟩⟩⟩
 ·have := (h.row z (by omega)).1
  exact ⟨by omega, h1, by omega, z + 1, by omega, by omega, wr64 (by omega) (by omega) (by omega)⟩
 ·obtain ⟨r1, r2⟩ := h.row z (by omega)
  refine ⟨by omega, h1, ⟨0, by omega, rfl⟩, fun y hy => ⟨fun h2 => ?_, fun _ => ⟨z + 1, by omega, by omega, wr64 (by omega) (by omega) (by omega)⟩⟩⟩
  have q := r2 y (by omega)
  have q1 := q.f1
  have q2 := q.f2
  have q3 := q.b2
  have q4 := q.a2
  have q5 := q.ti
  exact ⟨by omega, h2, by omega, by omega, by omega, by omega, ind_ok f _ (by omega) q.fi, ind_ok f _ (by omega) q.bi, ind_ok f _ (by omega) q.ai, by decide, by decide, Nat.zero_lt_one, by omega, by omega, y + 1, by omega, by omega, wr64 (by omega) (by omega) (by omega)⟩
end Go.Proofs.YtekhlnihpfkkkaaGreatDoor
namespace Go.Proofs.YtekhlnihpfkkkaaGreatDoor
open Go.Eng
def lFnd (k : Nat) : Nat → Env → List O → Option LH := fun _ E H =>
 some (mkLH E H [0, 1, 6, 7] [] (fun z : Nat => [(8, none, vint .i64 z)]) (fun _ => []) (fun z => z ≤ k) (fun z => k + 1 - z))
def hFnd (k : Nat) : FuncId → FH := fun f =>
 bif Nat.beq f 178 then { sp := [9, 16], lp := lFnd k, reg := fun _ => { sh := none, g := 1 } }
 else { reg := fun _ => { sh := none, g := 1 } }
set_option maxRecDepth 100000 in
theorem find_ok (f : Ft) (k : Nat) (hk : k < f.gls.length) (hl : f.gls.length < 2 ^ 20) (h : ∀ j, j < k → (f.gls.getD j gl0).name ≠ (f.gls.getD k gl0).name) : Pure Tryz.prog 164 [eFn f, .s (f.gls.getD k gl0).name] (vint .i64 k) := by
 let K : D → Prop := fun x => endL (vint .i64 k) x []
 refine pure_byL 20 (hFnd k) (p :=
  let a0_4 : Nat := k + 1; let a0_3 : PV := PV.lst 7 f.gls.length fun (i : Nat) => eGl (f.gls.getD i gl0); let a0_2 : Option Bool × D := (none, D.p a0_3); let a0_1 : List O := [O.box (D.p (PV.agg [PV.s f.name, PV.v (Value.int IntKind.i64 f.ver), PV.lst 4 f.axes.length fun (i : Nat) => eAx (f.axes.getD i ax0), a0_3, PV.lst 2 f.chars.length fun (i : Nat) => eR (f.chars.getD i ((0 : Int), (0 : Int))), PV.lst 1 f.lks.length fun (i : Nat) => eLk (f.lks.getD i []), PV.lst 3 f.kerns.length fun (i : Nat) => eT (f.kerns.getD i tn0)])), O.box (D.p (PV.s (f.gls.getD k gl0).name))]; let a0_0 : List (Nat × Option Bool × D) := [(0, a0_2), (1, none, D.fn 179 [] [D.ref 1 []]), (6, a0_2), (7, none, D.p (PV.v (Value.int IntKind.i64 (↑f.gls.length : Int))))]; (∃ (x : Nat), x ≤ k ∧ Int.ofNat 0 = (↑x : Int) ∧ a0_0 = a0_0 ∧ a0_1 = a0_1) ∧ ∀ (z : Nat), let a1_0 : List UInt8 := (f.gls.getD (↑z : Int).toNat gl0).name; z ≤ k → (decide ((↑z : Int) < (↑f.gls.length : Int)) = true → (0 : Int) ≤ (↑z : Int) ∧ (↑z : Int) < (↑f.gls.length : Int) ∧ ((a1_0 == (f.gls.getD k gl0).name) = true → K (D.p (PV.v (Value.int IntKind.i64 (↑z : Int))))) ∧ ((a1_0 == (f.gls.getD k gl0).name) = false → ∃ (y : Nat), y ≤ k ∧ a0_4 - y < a0_4 - z ∧ IntKind.i64.wrap ((↑z : Int) + (1 : Int)) = (↑y : Int) ∧ a0_0 = a0_0 ∧ a0_1 = a0_1)) ∧ (decide ((↑z : Int) < (↑f.gls.length : Int)) = false → K (D.p (PV.v (Value.int IntKind.i64 (Int.negSucc 0)))))) (by kernel_rfl) ?_
 simp only [Int.toNat_natCast, decide_eq_true_eq, decide_eq_false_iff_not, and_true, true_and]
 refine ⟨⟨0, by omega, rfl⟩, fun z hz => ⟨fun h1 => ⟨by omega, h1, fun h2 => ?_, fun h2 => ?_⟩, fun h1 => by omega⟩⟩
 ·have h3 := eq_of_beq h2
  have : z = k := by
   rcases Nat.lt_or_ge z k with hlt | hge
   ·exact absurd h3 (h z hlt)
   ·omega
  subst this
  exact leP_refl _
 ·have : z ≠ k := fun e => by subst e; simp at h2
  exact ⟨z + 1, by omega, by omega, wr64 (by omega) (by omega) (by omega)⟩
end Go.Proofs.YtekhlnihpfkkkaaGreatDoor
namespace Go.Proofs.YtekhlnihpfkkkaaGreatDoor
open Go.Eng
structure OkAx (l : List Ax) : Prop where
 len : l.length ≤ 3
 tag : ∀ k, k < l.length → Pure Tryz.prog 175 [.s (l.getD k ax0).tag] (vbool true)
 dis : ∀ k j, k < l.length → j < k → (l.getD k ax0).tag ≠ (l.getD j ax0).tag
 rng : ∀ k, k < l.length → -1000 ≤ (l.getD k ax0).low ∧ (l.getD k ax0).low ≤ (l.getD k ax0).usual ∧ (l.getD k ax0).usual ≤ (l.getD k ax0).high ∧ (l.getD k ax0).high ≤ 1000
def lAx (l : List Ax) : Nat → Env → List O → Option LH := fun _ E H =>
 some (mkLH E H [0, 9, 10] [] (fun z : Nat => [(11, none, vint .i64 z)]) (fun _ => []) (fun z => z ≤ l.length) (fun z => l.length - z))
def reAx (l : List Ax) : Env → Nat → RH → RH := fun E r R => bif Nat.beq r 9 then (match E.get 3 with
 | some (_, .p (.v (.int _ k))) => { R with hs := [(2, .p (.lst 4 k.toNat fun i => eAx (l.getD i ax0)))] }
 | _ => R) else R
def hAx (l : List Ax) : FuncId → FH := fun f =>
 bif Nat.beq f 163 then { sp := [12], lp := lAx l, re := reAx l, pc := fun f _ => bif Nat.beq f 175 then some (vbool true) else none, reg := fun r => bif Nat.beq r 1 then { sh := none, g := 1, hs := [(2, vbool false)] } else bif Nat.beq r 13 then { sh := none, g := 1, hs := [(4, vbool false), (10, vbool false)] } else { sh := none, g := 1 } }
 else bif Nat.beq f 174 then { reg := fun r => bif Nat.beq r 1 then { sh := none, g := 1, hs := [(1, vbool false), (4, vbool false)] } else { sh := none, g := 1 } }
 else bif Nat.beq f 177 then { reg := fun r => bif Nat.beq r 1 then { sh := none, g := 1, hs := [(4, vbool false)] } else { sh := none, g := 1 } }
 else bif Nat.beq f 189 then { sp := [9], lp := lIdx, reg := fun _ => { sh := none, g := 1 } }
 else { reg := fun _ => { sh := none, g := 1 } }
set_option maxRecDepth 100000 in
theorem axs_ok (l : List Ax) (h : OkAx l) : Pure Tryz.prog 163 [eL eAx 4 ax0 l] (vint .i64 0) := by
 let K : D → Prop := fun x => endL (vint .i64 0) x []
 refine pure_byL 20 (hAx l) (p :=
  let a0_2 : Int := (-1000 : Int); let a0_1 : Nat × Option Bool × D := (1, none, D.fn 177 [] [D.ref 0 []]); let a0_0 : List (Nat × Option Bool × D) := [(0, none, D.p (eL eAx 4 ax0 l)), (9, none, D.p (PV.lst 4 l.length fun (i : Nat) => eAx (l.getD i ax0))), (10, none, D.p (PV.v (Value.int IntKind.i64 (↑l.length : Int))))]; decide ((3 : Int) < (↑l.length : Int)) = false ∧ (∃ (x : Nat), x ≤ l.length ∧ Int.ofNat 0 = (↑x : Int) ∧ a0_0 = a0_0 ∧ ([] : List O) = []) ∧ ∀ (z : Nat), let a1_10 : Int := (↑(↑z : Int).toNat : Int); let a1_9 : Nat := a1_10.toNat; let a1_8 : Int := (l.getD (↑z : Int).toNat ax0).usual; let a1_7 : List UInt8 := (l.getD (↑z : Int).toNat ax0).tag; let a1_6 : Int := (l.getD (↑z : Int).toNat ax0).low; let a1_5 : Int := (l.getD (↑z : Int).toNat ax0).high; let a1_4 : PV := PV.s a1_7; let a1_3 : Nat := (↑z : Int).toNat - 0; let a1_2 : Option Bool × D := (none, D.p (PV.lst 4 (↑z : Int).toNat fun (i : Nat) => eAx (l.getD i ax0))); let a1_1 : List O := [O.box (D.p (PV.agg [a1_4, PV.v (Value.int IntKind.i64 a1_6), PV.v (Value.int IntKind.i64 a1_8), PV.v (Value.int IntKind.i64 a1_5)]))]; let a1_0 : List (Nat × Option Bool × D) := [(0, a1_2), a0_1, (6, a1_2), (7, none, D.p (PV.v (Value.int IntKind.i64 a1_10)))]; z ≤ l.length → (decide ((↑z : Int) < (↑l.length : Int)) = true → (0 : Int) ≤ (↑z : Int) ∧ (↑z : Int) < (↑l.length : Int) ∧ Eng.Pure Tryz.prog 175 [a1_4] (vbool true) ∧ (0 : Int) ≤ (0 : Int) ∧ (0 : Int) ≤ (↑z : Int) ∧ (↑z : Int) ≤ (↑l.length : Int) ∧ (a1_3 = (↑z : Int).toNat ∧ ∀ (j : Nat), j < a1_3 → eAx (l.getD (0 + j) ax0) = eAx (l.getD j ax0)) ∧ (∃ (x : Nat), x ≤ a1_9 ∧ Int.ofNat 0 = (↑x : Int) ∧ a1_0 = a1_0 ∧ a1_1 = a1_1) ∧ ∀ (z_1 : Nat), z_1 ≤ a1_9 → (decide ((↑z_1 : Int) < a1_10) = true → (0 : Int) ≤ (↑z_1 : Int) ∧ (↑z_1 : Int) < a1_10 ∧ (a1_7 == (l.getD (↑z_1 : Int).toNat ax0).tag) = false ∧ ∃ (y : Nat), y ≤ a1_9 ∧ a1_9 - y < a1_9 - z_1 ∧ IntKind.i64.wrap ((↑z_1 : Int) + (1 : Int)) = (↑y : Int) ∧ a1_0 = a1_0 ∧ a1_1 = a1_1) ∧ (decide ((↑z_1 : Int) < a1_10) = false → decide (a1_6 < a0_2) = false ∧ decide ((1000 : Int) < a1_6) = false ∧ decide (a1_8 < a0_2) = false ∧ decide ((1000 : Int) < a1_8) = false ∧ decide (a1_5 < a0_2) = false ∧ decide ((1000 : Int) < a1_5) = false ∧ decide (a1_8 < a1_6) = false ∧ decide (a1_5 < a1_8) = false ∧ ∃ (y : Nat), y ≤ l.length ∧ l.length - y < l.length - z ∧ IntKind.i64.wrap ((↑z : Int) + (1 : Int)) = (↑y : Int) ∧ a0_0 = a0_0 ∧ ([] : List O) = [])) ∧ (decide ((↑z : Int) < (↑l.length : Int)) = false → K (D.p (PV.v (Value.int IntKind.i64 (Int.ofNat 0)))))) (by kernel_rfl) ?_
 simp only [Int.toNat_natCast, decide_eq_true_eq, decide_eq_false_iff_not, and_true, true_and]
 have hl := h.len
 refine ⟨by omega, ⟨0, by omega, rfl⟩, fun z hz => ⟨fun h1 => ?_, fun _ => leP_refl _⟩⟩
 have hr := h.rng z (by omega)
 refine ⟨by omega, h1, h.tag z (by omega), by omega, by omega, by omega, ⟨by omega, fun j _ => by rw [Nat.zero_add]⟩, ⟨0, by omega, rfl⟩, fun y hy => ⟨fun h2 => ?_, fun h2 => ?_⟩⟩
 ·exact ⟨by omega, h2, beq_eq_false_iff_ne.2 (h.dis z y (by omega) (by omega)), y + 1, by omega, by omega, wr64 (by omega) (by omega) (by omega)⟩
 ·exact ⟨by omega, by omega, by omega, by omega, by omega, by omega, by omega, by omega, z + 1, by omega, by omega, wr64 (by omega) (by omega) (by omega)⟩
end Go.Proofs.YtekhlnihpfkkkaaGreatDoor
namespace Go.Proofs.YtekhlnihpfkkkaaGreatDoor
open Go.Eng
def hHd : FuncId → FH := fun _ =>
 { pc := fun f _ => bif Nat.beq f 162 then some (vbool true) else bif Nat.beq f 163 then some (vint .i64 0) else none, reg := fun r => bif Nat.beq r 3 then { sh := none, g := 1, hs := [(2, vbool false), (6, vbool false)] } else bif Nat.beq r 8 then { sh := none, g := 1, hs := [(3, vbool false), (8, vbool false)] } else { sh := none, g := 1 } }
set_option maxRecDepth 100000 in
theorem head_ok (f : Ft) (hn : Pure Tryz.prog 162 [.s f.name, eB false] (vbool true)) (ha : OkAx f.axes) (hv : 0 ≤ f.ver ∧ f.ver ≤ 9999) (hg : 1 ≤ f.gls.length ∧ f.gls.length ≤ 96) : Pure Tryz.prog 157 [eFn f] (vint .i64 0) := by
 let K : D → Prop := fun x => endL (vint .i64 0) x []
 refine pure_byL 20 hHd (p :=
  Eng.Pure Tryz.prog 162 [PV.s f.name, PV.v (Value.bool false)] (vbool true) ∧ decide (f.ver < (0 : Int)) = false ∧ decide ((9999 : Int) < f.ver) = false ∧ Eng.Pure Tryz.prog 163 [PV.lst 4 f.axes.length fun (i : Nat) => eAx (f.axes.getD i ax0)] (vint IntKind.i64 (0 : Int)) ∧ decide ((↑f.gls.length : Int) < (1 : Int)) = false ∧ decide ((96 : Int) < (↑f.gls.length : Int)) = false ∧ K (D.p (PV.v (Value.int IntKind.i64 (Int.ofNat 0))))) (by kernel_rfl) ?_
 simp only [Int.toNat_natCast, decide_eq_true_eq, decide_eq_false_iff_not, and_true, true_and]
 exact ⟨hn, by omega, by omega, axs_ok _ ha, by omega, by omega, leP_refl _⟩
end Go.Proofs.YtekhlnihpfkkkaaGreatDoor
namespace Go.Proofs.YtekhlnihpfkkkaaGreatDoor
open Go.Eng
def lastS (l : List (Int × Int)) (z : Nat) : Int := if z = 0 then -1 else (l.getD (z - 1) (0, 0)).1
structure OkCh (l : List (Int × Int)) (n : Nat) : Prop where
 len : l.length ≤ 64
 row : ∀ k, k < l.length → lastS l k < (l.getD k (0, 0)).1 ∧ (l.getD k (0, 0)).1 ≤ 122 ∧ (0 ≤ (l.getD k (0, 0)).2 ∧ (l.getD k (0, 0)).2 < n)
 let' : ∀ k, k < l.length → (l.getD k (0, 0)).1 = 45 ∨ Pure Tryz.prog 162 [.s (Utf8.encode (IntKind.wrap .i32 (l.getD k (0, 0)).1)).data.toList, eB true] (vbool true)
def lCh (l : List (Int × Int)) : Nat → Env → List O → Option LH := fun _ E H =>
 some (mkLH E H [1, 11, 12] [] (fun z : Nat => [(13, none, vint .i64 z), (3, none, vint .i64 (lastS l z))]) (fun _ => []) (fun z => z ≤ l.length) (fun z => l.length - z))
def hCh (l : List (Int × Int)) : FuncId → FH := fun f =>
 bif Nat.beq f 159 then { sp := [14], lp := lCh l, pc := fun f _ => bif Nat.beq f 162 then some (vbool true) else none, reg := fun r => bif Nat.beq r 1 then { sh := none, g := 1, hs := [(3, vbool false)] } else bif Nat.beq r 7 then { sh := none, g := 2, hs := [(3, vbool false), (7, vbool false)] } else { sh := none, g := 1 } }
 else bif Nat.beq f 183 then { reg := fun r => bif Nat.beq r 1 then { sh := none, g := 1, hs := [(1, vbool false), (7, vbool false)] } else { sh := none, g := 1 } }
 else { rounds := 4, reg := fun _ => { sh := none, g := 1 } }
set_option maxRecDepth 100000 in
theorem chs_ok (f : Ft) (h : OkCh f.chars f.gls.length) : Pure Tryz.prog 159 [eFn f] (vint .i64 0) := by
 let K : D → Prop := fun x => endL (vint .i64 0) x []
 refine pure_byL 20 (hCh f.chars) (p :=
  let a0_6 : Int := (↑1 : Int); let a0_5 : Int := (↑f.chars.length : Int); let a0_4 : D := D.p (PV.v (Value.int IntKind.i64 (Int.ofNat 32))); let a0_3 : Int × Int := ((0 : Int), (0 : Int)); let a0_2 : PV := PV.lst 2 f.chars.length fun (i : Nat) => eR (f.chars.getD i a0_3); let a0_1 : List (Nat × Option Bool × D) := [(1, none, D.ref 0 []), (11, none, D.p a0_2), (12, none, D.p (PV.v (Value.int IntKind.i64 a0_5)))]; let a0_0 : List O := [O.box (D.p (PV.agg [PV.s f.name, PV.v (Value.int IntKind.i64 f.ver), PV.lst 4 f.axes.length fun (i : Nat) => eAx (f.axes.getD i ax0), PV.lst 7 f.gls.length fun (i : Nat) => eGl (f.gls.getD i gl0), a0_2, PV.lst 1 f.lks.length fun (i : Nat) => eLk (f.lks.getD i []), PV.lst 3 f.kerns.length fun (i : Nat) => eT (f.kerns.getD i tn0)]))]; decide ((64 : Int) < a0_5) = false ∧ (∃ (x : Nat), x ≤ f.chars.length ∧ Int.ofNat 0 = (↑x : Int) ∧ Int.negSucc 0 = lastS f.chars x ∧ a0_1 = a0_1 ∧ a0_0 = a0_0) ∧ ∀ (z : Nat), let a1_4 : Int × Int := f.chars.getD (↑z : Int).toNat a0_3; let a1_3 : Nat := f.chars.length - z; let a1_2 : Int := a1_4.fst; let a1_1 : Int := a1_4.snd; let a1_0 : Int := IntKind.i64.wrap ((↑z : Int) + (1 : Int)); z ≤ f.chars.length → (decide ((↑z : Int) < a0_5) = true → (0 : Int) ≤ (↑z : Int) ∧ (↑z : Int) < a0_5 ∧ decide (a1_2 ≤ lastS f.chars z) = false ∧ ((!false) = true → decide ((122 : Int) < a1_2) = false ∧ ((!false) = true → ((a1_2 != (45 : Int)) = true → Eng.Pure Tryz.prog 162 [PV.s (Utf8.encode (IntKind.i32.wrap a1_2)).data.toList, PV.v (Value.bool true)] (vbool true) ∧ ((!!true) = true → (0 : Int) ≤ Int.ofNat 0 ∧ Int.ofNat 0 < a0_6 ∧ 0 < 1 ∧ decide (a1_1 < (0 : Int)) = false ∧ decide ((↑f.gls.length : Int) ≤ a1_1) = false ∧ ∃ (y : Nat), y ≤ f.chars.length ∧ f.chars.length - y < a1_3 ∧ a1_0 = (↑y : Int) ∧ a1_2 = lastS f.chars y ∧ a0_1 = a0_1 ∧ a0_0 = a0_0) ∧ ((!!true) = false → K a0_4)) ∧ ((a1_2 != (45 : Int)) = false → (0 : Int) ≤ Int.ofNat 0 ∧ Int.ofNat 0 < a0_6 ∧ 0 < 1 ∧ decide (a1_1 < (0 : Int)) = false ∧ decide ((↑f.gls.length : Int) ≤ a1_1) = false ∧ ∃ (y : Nat), y ≤ f.chars.length ∧ f.chars.length - y < a1_3 ∧ a1_0 = (↑y : Int) ∧ a1_2 = lastS f.chars y ∧ a0_1 = a0_1 ∧ a0_0 = a0_0)) ∧ ((!false) = false → K a0_4)) ∧ ((!false) = false → K a0_4)) ∧ (decide ((↑z : Int) < a0_5) = false → K (D.p (PV.v (Value.int IntKind.i64 (Int.ofNat 0)))))) (by kernel_rfl) ?_
 simp only [Int.toNat_natCast, decide_eq_true_eq, decide_eq_false_iff_not, and_true, true_and]
 have hl := h.len
 refine ⟨by omega, ⟨0, by omega, rfl, rfl⟩, fun z hz => ⟨fun h1 => ?_, fun _ => leP_refl _⟩⟩
 obtain ⟨r1, r2, r3⟩ := h.row z (by omega)
 have hn : ∃ y, y ≤ f.chars.length ∧ f.chars.length - y < f.chars.length - z ∧ IntKind.wrap .i64 ((z : Int) + 1) = (y : Int) ∧ (f.chars.getD z (0, 0)).1 = lastS f.chars y :=
  ⟨z + 1, by omega, by omega, wr64 (by omega) (by omega) (by omega), by rw [lastS, if_neg (by omega), Nat.add_sub_cancel]⟩
 refine ⟨by omega, h1, by omega, fun _ => ⟨by omega, fun _ => ⟨fun h2 => ⟨?_, fun _ => ⟨by decide, by decide, Nat.zero_lt_one, by omega, by omega, hn⟩, fun h => by simp at h⟩, fun _ => ⟨by decide, by decide, Nat.zero_lt_one, by omega, by omega, hn⟩⟩, fun h => by simp at h⟩, fun h => by simp at h⟩
 rcases h.let' z (by omega) with e | e
 ·rw [e] at h2; exact absurd h2 (by decide)
 ·exact e
end Go.Proofs.YtekhlnihpfkkkaaGreatDoor
namespace Go.Proofs.YtekhlnihpfkkkaaGreatDoor
open Go.Eng
structure OkCp (g : Gl) (n : Nat) (d : Nat → Int) : Prop where
 out : g.out = []
 del : g.del = []
 hint : hpM g.hint = []
 len : g.parts.length ≤ 4
 row : ∀ k, k < g.parts.length → (0 ≤ (g.parts.getD k tn0).1 ∧ (g.parts.getD k tn0).1 < n) ∧ d (g.parts.getD k tn0).1.toNat = 0 ∧ (-512 ≤ (g.parts.getD k tn0).2.1 ∧ (g.parts.getD k tn0).2.1 ≤ 512) ∧ -512 ≤ (g.parts.getD k tn0).2.2 ∧ (g.parts.getD k tn0).2.2 ≤ 512
def depS (z : Nat) : Int := if z = 0 then 0 else 1
def eDp (n : Nat) (d : Nat → Int) : PV := .lst 1 n fun j => eI (d j)
def lCp (g : Gl) : Nat → Env → List O → Option LH := fun _ E H =>
 some (mkLH E H [1, 2, 26, 27] [] (fun z : Nat => [(28, none, vint .i64 z), (6, none, vint .i64 (depS z))]) (fun _ => []) (fun z => z ≤ g.parts.length) (fun z => g.parts.length - z))
def hCp (g : Gl) : FuncId → FH := fun _ => { sp := [29], lp := lCp g, pc := fun f _ => bif Nat.beq f 171 then some (vbool true) else none, reg := fun r => bif Nat.beq r 1 then { sh := none, g := 1, hs := [(11, vbool false)] } else bif Nat.beq r 3 then { sh := none, g := 1, hs := [(3, vbool false)] } else bif Nat.beq r 9 then { sh := none, g := 1, hs := [(3, vbool false), (10, vbool false), (16, vbool false)] } else bif Nat.beq r 13 then { sh := none, g := 1, hs := [(1, vbool false)] } else { sh := none, g := 1 } }
set_option maxRecDepth 100000 in
theorem comp_ok (g : Gl) (n : Nat) (d : Nat → Int) (h : OkCp g n d) (hn : n < 2 ^ 40) : Pure Tryz.prog 165 [eGl g, eDp n d] (.tup [vint .i64 (depS g.parts.length), vint .i64 0]) := by
 let K : D → Prop := fun x => endL (.tup [vint .i64 (depS g.parts.length), vint .i64 0]) x []
 refine pure_byL 20 (hCp g) (p :=
  let a0_5 : List PV := [PV.v (Value.int IntKind.i64 (512 : Int))]; let a0_4 : PV := PV.lst 3 g.parts.length fun (i : Nat) => eT (g.parts.getD i tn0); let a0_3 : Int := IntKind.i64.wrap (IntKind.i64.wrap ((↑g.out.length : Int) + (↑g.del.length : Int)) + (↑(hpM g.hint).length : Int)); let a0_2 : List O := [O.box (D.p (PV.agg [PV.s g.name, PV.v (Value.int IntKind.i64 g.adv), PV.lst 1 g.out.length fun (i : Nat) => eC (g.out.getD i []), PV.lst 2 g.del.length fun (i : Nat) => eDl (g.del.getD i dl0), a0_4, PV.lst 3 (hpM g.hint).length fun (i : Nat) => eT ((hpM g.hint).getD i tn0), PV.lst 1 g.alts.length fun (i : Nat) => eI (g.alts.getD i (0 : Int))]))]; let a0_1 : List (Nat × Option Bool × D) := [(1, none, D.p (eDp n d)), (2, none, D.ref 0 []), (26, none, D.p a0_4), (27, none, D.p (PV.v (Value.int IntKind.i64 (↑g.parts.length : Int))))]; let a0_0 : Prop := a0_1 = a0_1 ∧ a0_2 = a0_2; decide ((0 : Int) < a0_3) = false ∧ decide ((4 : Int) < (↑g.parts.length : Int)) = false ∧ (∃ (x : Nat), x ≤ g.parts.length ∧ Int.ofNat 0 = (↑x : Int) ∧ Int.ofNat 0 = depS x ∧ a0_0) ∧ ∀ (z : Nat), let a1_2 : Tn := g.parts.getD (↑z : Int).toNat tn0; let a1_1 : Int := a1_2.fst; let a1_0 : Int × Int := a1_2.snd; z ≤ g.parts.length → (decide ((↑z : Int) < (↑g.parts.length : Int)) = true → (0 : Int) ≤ (↑z : Int) ∧ (↑z : Int) < (↑g.parts.length : Int) ∧ decide (a1_1 < (0 : Int)) = false ∧ decide ((↑n : Int) ≤ a1_1) = false ∧ Eng.Pure Tryz.prog 171 (PV.v (Value.int IntKind.i64 a1_0.fst) :: a0_5) (vbool true) ∧ (!true) = false ∧ Eng.Pure Tryz.prog 171 (PV.v (Value.int IntKind.i64 a1_0.snd) :: a0_5) (vbool true) ∧ (0 : Int) ≤ a1_1 ∧ a1_1 < (↑n : Int) ∧ ∃ (y : Nat), y ≤ g.parts.length ∧ g.parts.length - y < g.parts.length - z ∧ IntKind.i64.wrap ((↑z : Int) + (1 : Int)) = (↑y : Int) ∧ max (depS z) (IntKind.i64.wrap ((1 : Int) + d a1_1.toNat)) = depS y ∧ a0_0) ∧ (decide ((↑z : Int) < (↑g.parts.length : Int)) = false → decide ((3 : Int) < depS z) = false ∧ K (D.tup [D.p (PV.v (Value.int IntKind.i64 (depS z))), D.p (PV.v (Value.int IntKind.i64 (Int.ofNat 0)))]))) (by kernel_rfl) ?_
 simp only [Int.toNat_natCast, decide_eq_true_eq, decide_eq_false_iff_not, and_true, true_and]
 have hl := h.len
 have hw : ∀ n : Int, -512 ≤ n ∧ n ≤ 512 → Pure Tryz.prog 171 [.v (.int .i64 n), .v (.int .i64 512)] (vbool true) := fun n hn => by
  have := within_ok n 512
  rwa [show (decide (IntKind.wrap .i64 (0 - 512) ≤ n) && decide (n ≤ 512)) = true by
   rw [show IntKind.wrap .i64 (0 - 512) = -512 from by decide]; simp; omega] at this
 have hd : ∀ z, depS z ≤ 1 := fun z => by unfold depS; split <;> omega
 refine ⟨by rw [h.out, h.del, h.hint]; decide, by omega, ⟨0, by omega, rfl, rfl⟩, fun z hz => ⟨fun h1 => ?_, fun h1 => ⟨by have := hd z; omega, ?_⟩⟩⟩
 ·obtain ⟨⟨r1, r2⟩, r3, r4, r5⟩ := h.row z (by omega)
  refine ⟨by omega, h1, by omega, by omega, hw _ r4, by decide, hw _ r5, r1, r2, z + 1, by omega, by omega, wr64 (by omega) (by omega) (by omega), ?_⟩
  rw [r3, show IntKind.wrap .i64 (1 + 0) = 1 by decide]
  have := hd z
  unfold depS at this ⊢
  split <;> omega
 ·have : z = g.parts.length := by omega
  subst this
  exact ⟨leP_refl _, leP_refl _, trivial⟩
end Go.Proofs.YtekhlnihpfkkkaaGreatDoor
namespace Go.Proofs.YtekhlnihpfkkkaaGreatDoor
open Go.Eng
def lIx (n : Nat) : Nat → Env → List O → Option LH := fun _ E H =>
 some (mkLH E H [0, 1, 7] [] (fun z : Nat => [(8, none, vint .i64 z)]) (fun _ => []) (fun z => z ≤ n) (fun z => n - z))
def hCon (n : Nat) : FuncId → FH := fun f => bif Nat.beq f 184 then { sp := [9], lp := lIx n, reg := fun r => bif Nat.beq r 4 then { sh := none, g := 1, hs := [(5, vbool false)] } else { sh := none, g := 1 } } else { reg := fun _ => { sh := none, g := 1 } }
def dpS (f : Ft) (j : Nat) : Int := depS (f.gls.getD j gl0).parts.length
structure OkAl (l : List Int) (k n : Nat) : Prop where
 len : l.length ≤ 4
 row : ∀ i, i < l.length → (0 ≤ l.getD i 0 ∧ l.getD i 0 < n) ∧ l.getD i 0 ≠ k
 dis : ∀ i j, i < l.length → j < i → l.getD j 0 ≠ l.getD i 0
structure OkGs (f : Ft) : Prop where
 len : f.gls.length ≤ 96
 let' : ∀ k, k < f.gls.length → Pure Tryz.prog 162 [.s (f.gls.getD k gl0).name, eB true] (vbool true)
 dis : ∀ k j, k < f.gls.length → j < k → (f.gls.getD j gl0).name ≠ (f.gls.getD k gl0).name
 adv : ∀ k, k < f.gls.length → 0 ≤ (f.gls.getD k gl0).adv ∧ (f.gls.getD k gl0).adv ≤ 512
 comp : ∀ k, k < f.gls.length → 0 < (f.gls.getD k gl0).parts.length → OkCp (f.gls.getD k gl0) k (dpS f)
 simp : ∀ k, k < f.gls.length → (f.gls.getD k gl0).parts.length = 0 → Pure Tryz.prog 166 [eFn f, eGl (f.gls.getD k gl0)] (vint .i64 0)
 alts : ∀ k, k < f.gls.length → OkAl (f.gls.getD k gl0).alts k f.gls.length
def wK {α : Type 1} (E : Env) (t : Nat) (d : α) (k : Nat → α) : α := match E.get t with
 | some (_, .p (.v (.int _ n))) => k n.toNat
 | _ => d
def wD (E : Env) (t : Nat) (k : Nat → Option D) : Option D := match E.get t with
 | some (_, .p (.v (.int _ n))) => k n.toNat
 | _ => none
def wR (E : Env) (t : Nat) (R : RH) (k : Nat → RH) : RH := match E.get t with
 | some (_, .p (.v (.int _ n))) => k n.toNat
 | _ => R
def lGs (f : Ft) : Nat → Env → List O → Option LH := fun r E H =>
 bif Nat.beq r 3 then some (mkLH E H [1, 3, 14, 15] [1] (fun z : Nat => [(16, none, vint .i64 z)]) (fun z => [(1, .arr 3 1 f.gls.length fun j => if j < z then vint .i64 (dpS f j) else vint .i64 0)]) (fun z => z ≤ f.gls.length) (fun z => f.gls.length - z))
 else wK E 4 none fun k => some (mkLH E H [1, 3, 4, 5, 14, 15, 16, 68, 69] [] (fun y : Nat => [(70, none, vint .i64 y)]) (fun _ => []) (fun y => y ≤ (f.gls.getD k gl0).alts.length) (fun y => (f.gls.getD k gl0).alts.length - y))
def peGs (f : Ft) : Env → FuncId → List PV → Option D := fun E g _ =>
 bif Nat.beq g 162 then some (vbool true) else bif Nat.beq g 164 then wD E 4 (fun k => some (vint .i64 k)) else bif Nat.beq g 165 then wD E 4 (fun k => some (.tup [vint .i64 (dpS f k), vint .i64 0]))
 else bif Nat.beq g 166 then some (vint .i64 0) else bif Nat.beq g 168 then some (vbool false) else none
def reGs (f : Ft) : Env → Nat → RH → RH := fun E r R => bif Nat.beq r 22 then wR E 4 R (fun k => wR E 7 R fun y => { R with hs := [(5, vbool false), (10, vbool false), (14, .p (.lst 1 y fun j => eI ((f.gls.getD k gl0).alts.getD j 0)))] }) else R
def hGs (f : Ft) : FuncId → FH := fun g =>
 bif Nat.beq g 158 then { sp := [17, 45, 71], lp := lGs f, pe := peGs f, re := reGs f, reg := fun r => bif Nat.beq r 7 then { sh := none, g := 1, hs := [(5, vbool false)] } else bif Nat.beq r 9 then { sh := none, g := 1, hs := [(3, vbool false), (6, vbool false)] } else bif Nat.beq r 13 then { sh := none, g := 1, lend := true } else bif Nat.beq r 17 then { sh := none, g := 1, hs := [(3, vbool false)] } else { sh := none, g := 1 } }
 else bif Nat.beq g 183 then { reg := fun r => bif Nat.beq r 1 then { sh := none, g := 1, hs := [(1, vbool false), (7, vbool false)] } else { sh := none, g := 1 } }
 else { rounds := 4, reg := fun _ => { sh := none, g := 1 } }
set_option maxRecDepth 100000 in
theorem cont_ok (n : Nat) (q : Nat → Int) (a : Int) (hn : n < 2 ^ 40) (h : ∀ j, j < n → q j ≠ a) : Pure Tryz.prog 168 [eDp n q, eI a] (vbool false) := by
 let K : D → Prop := fun x => endL (vbool false) x []
 refine pure_byL 20 (hCon n) (p :=
  let a0_1 : List (Nat × Option Bool × D) := [(0, none, D.p (PV.lst 1 n fun (j : Nat) => eI (q j))), (1, none, D.p (PV.v (Value.int IntKind.i64 a))), (7, none, D.p (PV.v (Value.int IntKind.i64 (↑n : Int))))]; let a0_0 : Prop := a0_1 = a0_1 ∧ ([] : List O) = []; (∃ (x : Nat), x ≤ n ∧ Int.ofNat 0 = (↑x : Int) ∧ a0_0) ∧ ∀ (z : Nat), z ≤ n → (decide ((↑z : Int) < (↑n : Int)) = true → (0 : Int) ≤ (↑z : Int) ∧ (↑z : Int) < (↑n : Int) ∧ (a == q (↑z : Int).toNat) = false ∧ ∃ (y : Nat), y ≤ n ∧ n - y < n - z ∧ IntKind.i64.wrap ((↑z : Int) + (1 : Int)) = (↑y : Int) ∧ a0_0) ∧ (decide ((↑z : Int) < (↑n : Int)) = false → K (D.p (PV.v (Value.bool (decide ((0 : Int) ≤ Int.negSucc 0))))))) (by kernel_rfl) ?_
 simp only [Int.toNat_natCast, decide_eq_true_eq, decide_eq_false_iff_not, and_true, true_and]
 refine ⟨⟨0, by omega, rfl⟩, fun z hz => ⟨fun h1 => ⟨by omega, h1, beq_eq_false_iff_ne.2 fun e => h z (by omega) e.symm, z + 1, by omega, by omega, wr64 (by omega) (by omega) (by omega)⟩, fun _ => leP_refl _⟩⟩
set_option maxRecDepth 100000 in
theorem gls_ok (f : Ft) (h : OkGs f) : Pure Tryz.prog 158 [eFn f] (vint .i64 0) := by
 let K : D → Prop := fun x => endL (vint .i64 0) x []
 refine pure_byL 20 (hGs f) (p :=
  let a0_15 : Nat := (↑f.gls.length : Int).toNat; let a0_14 : Int := (↑1 : Int); let a0_13 : D := D.p (PV.v (Value.int IntKind.i64 (0 : Int))); let a0_12 : PV := PV.lst 7 f.gls.length fun (i : Nat) => eGl (f.gls.getD i gl0); let a0_11 : List (Nat × Nat) := numbered [0, 1] 0; let a0_10 : Nat × Option Bool × D := (3, none, D.own 1); let a0_9 : Nat × Option Bool × D := (1, none, D.ref 0 []); let a0_8 : Nat × Option Bool × D := (5, none, D.ref 2 []); let a0_7 : Nat × Option Bool × D := (15, none, D.p (PV.v (Value.int IntKind.i64 (↑f.gls.length : Int)))); let a0_6 : List (Nat × Nat) := numbered [0, 1, 2] 0; let a0_5 : Nat × Option Bool × D := (14, none, D.p a0_12); let a0_4 : PV := PV.agg [PV.s f.name, PV.v (Value.int IntKind.i64 f.ver), PV.lst 4 f.axes.length fun (i : Nat) => eAx (f.axes.getD i ax0), a0_12, PV.lst 2 f.chars.length fun (i : Nat) => eR (f.chars.getD i ((0 : Int), (0 : Int))), PV.lst 1 f.lks.length fun (i : Nat) => eLk (f.lks.getD i []), PV.lst 3 f.kerns.length fun (i : Nat) => eT (f.kerns.getD i tn0)]; let a0_3 : O := O.box (D.p a0_4); let a0_2 : List O := [a0_3]; let a0_1 : List (Nat × Option Bool × D) := [a0_9, a0_10, a0_5, a0_7]; let a0_0 : Prop := a0_1 = a0_1 ∧ a0_2 = a0_2; (0 : Int) ≤ (↑f.gls.length : Int) ∧ (↑f.gls.length : Int) ≤ (↑f.gls.length : Int) ∧ (↑Tryz.prog.types[3].bytes : Int) * (↑f.gls.length : Int) ≤ (140737488355328 : Int) ∧ (↑f.gls.length : Int) ≤ (9223372036854775807 : Int) ∧ (∃ (x : Nat), x ≤ f.gls.length ∧ (∀ (i : Nat), i < a0_15 → D.ren a0_11 a0_13 = some a0_13) ∧ Int.ofNat 0 = (↑x : Int) ∧ (a0_15 = f.gls.length ∧ ∀ (j : Nat), j < a0_15 → a0_13 = if j < x then vint IntKind.i64 (dpS f j) else vint IntKind.i64 (0 : Int)) ∧ a0_0) ∧ ∀ (z : Nat), let a1_25 : Int := (↑(↑z : Int).toNat : Int); let a1_24 : List (List Pt) := (f.gls.getD (↑z : Int).toNat gl0).out; let a1_23 : D := D.p (PV.v (Value.int IntKind.i64 (dpS f (↑z : Int).toNat))); let a1_22 : List Tn := (f.gls.getD (↑z : Int).toNat gl0).parts; let a1_21 : List Int := (f.gls.getD (↑z : Int).toNat gl0).alts; let a1_20 : Int := (f.gls.getD (↑z : Int).toNat gl0).adv; let a1_19 : List Dl := (f.gls.getD (↑z : Int).toNat gl0).del; let a1_18 : PV := PV.s (f.gls.getD (↑z : Int).toNat gl0).name; let a1_17 : Nat := f.gls.length - z; let a1_16 : List Tn := hpM (f.gls.getD (↑z : Int).toNat gl0).hint; let a1_15 : Nat := a1_21.length; let a1_14 : Nat := a1_22.length; let a1_13 : Option Bool × D := (none, D.p (PV.v (Value.int IntKind.i64 (↑z : Int)))); let a1_12 : Int := (↑a1_14 : Int); let a1_11 : Int := (↑a1_15 : Int); let a1_10 : Int := IntKind.i64.wrap ((↑z : Int) + (1 : Int)); let a1_9 : Nat × Option Bool × D := (4, a1_13); let a1_8 : PV := PV.lst 1 a1_15 fun (i : Nat) => eI (a1_21.getD i (0 : Int)); let a1_7 : List (Nat × Option Bool × D) := [(68, none, D.p a1_8), (69, none, D.p (PV.v (Value.int IntKind.i64 a1_11)))]; let a1_6 : PV := PV.agg [a1_18, PV.v (Value.int IntKind.i64 a1_20), PV.lst 1 a1_24.length fun (i : Nat) => eC (a1_24.getD i []), PV.lst 2 a1_19.length fun (i : Nat) => eDl (a1_19.getD i dl0), PV.lst 3 a1_14 fun (i : Nat) => eT (a1_22.getD i tn0), PV.lst 3 a1_16.length fun (i : Nat) => eT (a1_16.getD i tn0), a1_8]; let a1_5 : List O := [O.box (D.p a1_6)]; let a1_4 : List O := a0_3 :: (O.arr 3 1 f.gls.length fun (j : Nat) => if j < z then vint IntKind.i64 (dpS f j) else vint IntKind.i64 (0 : Int)) :: a1_5; let a1_3 : List O := a0_3 :: O.arr 3 1 f.gls.length (upd (fun (j : Nat) => if j < z then vint IntKind.i64 (dpS f j) else vint IntKind.i64 (0 : Int)) (↑z : Int).toNat a1_23) :: a1_5; let a1_2 : Prop := a0_9 :: a0_10 :: a1_9 :: a0_8 :: a0_5 :: a0_7 :: (16, a1_13) :: a1_7 = a0_9 :: a0_10 :: a1_9 :: a0_8 :: a0_5 :: a0_7 :: (16, none, vint IntKind.i64 (↑z : Int)) :: a1_7; let a1_1 : Prop := a1_2 ∧ a1_4 = a1_4; let a1_0 : Prop := a1_2 ∧ a1_3 = a1_3; z ≤ f.gls.length → (decide ((↑z : Int) < (↑f.gls.length : Int)) = true → (0 : Int) ≤ (↑z : Int) ∧ (↑z : Int) < (↑f.gls.length : Int) ∧ Eng.Pure Tryz.prog 162 [a1_18, PV.v (Value.bool true)] (vbool true) ∧ Eng.Pure Tryz.prog 164 [a0_4, a1_18] (vint IntKind.i64 a1_25) ∧ decide (a1_25 < (↑z : Int)) = false ∧ decide (a1_20 < (0 : Int)) = false ∧ decide ((512 : Int) < a1_20) = false ∧ (decide ((0 : Int) < a1_12) = true → (0 : Int) ≤ (↑z : Int) ∧ (↑z : Int) ≤ (↑f.gls.length : Int) ∧ (↑z : Int).toNat ≤ f.gls.length ∧ (∀ (j : Nat), let a2_0 : D := if j < z then vint IntKind.i64 (dpS f j) else vint IntKind.i64 (0 : Int); j < (↑z : Int).toNat → a2_0 = D.p a2_0.unP) ∧ Eng.Pure Tryz.prog 165 [a1_6, PV.lst 1 (↑z : Int).toNat fun (j : Nat) => (if j < z then vint IntKind.i64 (dpS f j) else vint IntKind.i64 (0 : Int)).unP] (D.tup [vint IntKind.i64 (dpS f (↑z : Int).toNat), vint IntKind.i64 (0 : Int)]) ∧ (0 : Int) ≤ (↑z : Int) ∧ (↑z : Int) < (↑f.gls.length : Int) ∧ (↑z : Int).toNat < f.gls.length ∧ decide ((4 : Int) < a1_11) = false ∧ (∃ (x : Nat), x ≤ a1_15 ∧ (∀ (i : Nat), let a3_0 : D := upd (fun (j : Nat) => if j < z then vint IntKind.i64 (dpS f j) else vint IntKind.i64 (0 : Int)) (↑z : Int).toNat a1_23 i; i < f.gls.length → D.ren a0_6 a3_0 = some a3_0) ∧ Int.ofNat 0 = (↑x : Int) ∧ a1_0) ∧ ∀ (z_1 : Nat), let a2_1 : Int := a1_21.getD (↑z_1 : Int).toNat (0 : Int); let a2_0 : Nat := (↑z_1 : Int).toNat - 0; z_1 ≤ a1_15 → (decide ((↑z_1 : Int) < a1_11) = true → (0 : Int) ≤ (↑z_1 : Int) ∧ (↑z_1 : Int) < a1_11 ∧ (0 : Int) ≤ Int.ofNat 0 ∧ Int.ofNat 0 < a0_14 ∧ 0 < 1 ∧ decide (a2_1 < (0 : Int)) = false ∧ decide ((↑f.gls.length : Int) ≤ a2_1) = false ∧ (!!decide ((0 : Int) ≤ Int.negSucc 0)) = false ∧ (a2_1 == (↑z : Int)) = false ∧ (0 : Int) ≤ (0 : Int) ∧ (0 : Int) ≤ (↑z_1 : Int) ∧ (↑z_1 : Int) ≤ a1_11 ∧ (a2_0 = (↑z_1 : Int).toNat ∧ ∀ (j : Nat), j < a2_0 → eI (a1_21.getD (0 + j) (0 : Int)) = eI (a1_21.getD j (0 : Int))) ∧ Eng.Pure Tryz.prog 168 [PV.lst 1 (↑z_1 : Int).toNat fun (j : Nat) => eI (a1_21.getD j (0 : Int)), PV.v (Value.int IntKind.i64 a2_1)] (vbool false) ∧ ∃ (y : Nat), y ≤ a1_15 ∧ a1_15 - y < a1_15 - z_1 ∧ (∀ (i : Nat), let a4_0 : D := upd (fun (j : Nat) => if j < z then vint IntKind.i64 (dpS f j) else vint IntKind.i64 (0 : Int)) (↑z : Int).toNat a1_23 i; i < f.gls.length → D.ren a0_6 a4_0 = some a4_0) ∧ IntKind.i64.wrap ((↑z_1 : Int) + (1 : Int)) = (↑y : Int) ∧ a1_0) ∧ (decide ((↑z_1 : Int) < a1_11) = false → ∃ (y : Nat), y ≤ f.gls.length ∧ f.gls.length - y < a1_17 ∧ (∀ (i : Nat), let a4_0 : D := upd (fun (j : Nat) => if j < z then vint IntKind.i64 (dpS f j) else vint IntKind.i64 (0 : Int)) (↑z : Int).toNat a1_23 i; i < f.gls.length → D.ren a0_11 a4_0 = some a4_0) ∧ a1_10 = (↑y : Int) ∧ (f.gls.length = f.gls.length ∧ ∀ (j : Nat), j < f.gls.length → upd (fun (j : Nat) => if j < z then vint IntKind.i64 (dpS f j) else vint IntKind.i64 (0 : Int)) (↑z : Int).toNat a1_23 j = if j < y then vint IntKind.i64 (dpS f j) else vint IntKind.i64 (0 : Int)) ∧ a0_0)) ∧ (decide ((0 : Int) < a1_12) = false → Eng.Pure Tryz.prog 166 [a0_4, a1_6] (vint IntKind.i64 (0 : Int)) ∧ decide ((4 : Int) < a1_11) = false ∧ (∃ (x : Nat), x ≤ a1_15 ∧ (∀ (i : Nat), let a3_0 : D := if i < z then vint IntKind.i64 (dpS f i) else vint IntKind.i64 (0 : Int); i < f.gls.length → D.ren a0_6 a3_0 = some a3_0) ∧ Int.ofNat 0 = (↑x : Int) ∧ a1_1) ∧ ∀ (z_1 : Nat), let a2_1 : Int := a1_21.getD (↑z_1 : Int).toNat (0 : Int); let a2_0 : Nat := (↑z_1 : Int).toNat - 0; z_1 ≤ a1_15 → (decide ((↑z_1 : Int) < a1_11) = true → (0 : Int) ≤ (↑z_1 : Int) ∧ (↑z_1 : Int) < a1_11 ∧ (0 : Int) ≤ Int.ofNat 0 ∧ Int.ofNat 0 < a0_14 ∧ 0 < 1 ∧ decide (a2_1 < (0 : Int)) = false ∧ decide ((↑f.gls.length : Int) ≤ a2_1) = false ∧ (!!decide ((0 : Int) ≤ Int.negSucc 0)) = false ∧ (a2_1 == (↑z : Int)) = false ∧ (0 : Int) ≤ (0 : Int) ∧ (0 : Int) ≤ (↑z_1 : Int) ∧ (↑z_1 : Int) ≤ a1_11 ∧ (a2_0 = (↑z_1 : Int).toNat ∧ ∀ (j : Nat), j < a2_0 → eI (a1_21.getD (0 + j) (0 : Int)) = eI (a1_21.getD j (0 : Int))) ∧ Eng.Pure Tryz.prog 168 [PV.lst 1 (↑z_1 : Int).toNat fun (j : Nat) => eI (a1_21.getD j (0 : Int)), PV.v (Value.int IntKind.i64 a2_1)] (vbool false) ∧ ∃ (y : Nat), y ≤ a1_15 ∧ a1_15 - y < a1_15 - z_1 ∧ (∀ (i : Nat), let a4_0 : D := if i < z then vint IntKind.i64 (dpS f i) else vint IntKind.i64 (0 : Int); i < f.gls.length → D.ren a0_6 a4_0 = some a4_0) ∧ IntKind.i64.wrap ((↑z_1 : Int) + (1 : Int)) = (↑y : Int) ∧ a1_1) ∧ (decide ((↑z_1 : Int) < a1_11) = false → ∃ (y : Nat), y ≤ f.gls.length ∧ f.gls.length - y < a1_17 ∧ (∀ (i : Nat), let a4_0 : D := if i < z then vint IntKind.i64 (dpS f i) else vint IntKind.i64 (0 : Int); i < f.gls.length → D.ren a0_11 a4_0 = some a4_0) ∧ a1_10 = (↑y : Int) ∧ (f.gls.length = f.gls.length ∧ ∀ (j : Nat), j < f.gls.length → (if j < z then vint IntKind.i64 (dpS f j) else vint IntKind.i64 (0 : Int)) = if j < y then vint IntKind.i64 (dpS f j) else vint IntKind.i64 (0 : Int)) ∧ a0_0))) ∧ (decide ((↑z : Int) < (↑f.gls.length : Int)) = false → K (D.p (PV.v (Value.int IntKind.i64 (Int.ofNat 0)))))) (by kernel_rfl) ?_
 have e3 : (Tryz.prog.types[3]).bytes = 8 := by kernel_rfl
 simp only [e3, Int.toNat_natCast, decide_eq_true_eq, decide_eq_false_iff_not, and_true, true_and]
 have hl := h.len
 have hr : ∀ (l : List Nat) (z i : Nat), D.ren (numbered l 0) (if i < z then vint IntKind.i64 (dpS f i) else vint IntKind.i64 0) = some (if i < z then vint IntKind.i64 (dpS f i) else vint IntKind.i64 0) := fun l z i => by split <;> rfl
 refine ⟨by omega, by omega, by omega, by omega, ⟨0, by omega, fun _ _ => rfl, rfl, fun j _ => by simp⟩, fun z hz => ⟨fun h1 => ?_, fun _ => leP_refl _⟩⟩
 have hz1 : z < f.gls.length := by omega
 have hal := h.alts z hz1
 have hA : ∀ y, y < (f.gls.getD z gl0).alts.length → Pure Tryz.prog 168 [eDp y fun j => (f.gls.getD z gl0).alts.getD j 0, eI ((f.gls.getD z gl0).alts.getD y 0)] (vbool false) := fun y hy => cont_ok y _ _ (by have := hal.len; omega) (fun j hj => hal.dis y j hy hj)
 have hU : ∀ (l : List Nat) (d : D) (z i : Nat), d.ren (numbered l 0) = some d → D.ren (numbered l 0) (upd (fun j => if j < z then vint IntKind.i64 (dpS f j) else vint IntKind.i64 0) z d i) = some (upd (fun j => if j < z then vint IntKind.i64 (dpS f j) else vint IntKind.i64 0) z d i) := fun l d z i hd => upd_ren (hr l z) hd i
 refine ⟨by omega, h1, h.let' z hz1, find_ok f z hz1 (by omega) (h.dis z · hz1), by omega, by have := h.adv z hz1; omega, by have := h.adv z hz1; omega, fun h2 => ?_, fun h2 => ?_⟩
 ·have hc := h.comp z hz1 (by omega)
  have hcp := comp_ok (f.gls.getD z gl0) z (fun j => if j < z then dpS f j else 0) ⟨hc.out, hc.del, hc.hint, hc.len, fun k hk => by
   obtain ⟨r1, r2, r3⟩ := hc.row k hk
   exact ⟨r1, by rw [if_pos (by omega)]; exact r2, r3⟩⟩ (by omega)
  have hfe : (fun j => eI (if j < z then dpS f j else 0)) = fun j => (if j < z then vint IntKind.i64 (dpS f j) else vint IntKind.i64 0).unP := by
   funext j; split <;> rfl
  rw [eDp, hfe] at hcp
  have hpu : ∀ j, upd (fun j => if j < z then vint IntKind.i64 (dpS f j) else vint IntKind.i64 0) z (vint IntKind.i64 (dpS f z)) j = if j < z + 1 then vint IntKind.i64 (dpS f j) else vint IntKind.i64 0 := pref_upd (A := fun j => vint IntKind.i64 (dpS f j)) rfl
  refine ⟨by omega, by omega, by omega, fun j _ => by split <;> rfl, hcp, by omega, h1, hz1, by have := hal.len; omega, ⟨0, by omega, fun i _ => hU _ _ _ _ rfl, rfl⟩, fun y hy => ⟨fun h3 => ?_, fun h3 => ⟨z + 1, by omega, by omega, fun i _ => hU _ _ _ _ rfl, wr64 (by omega) (by omega) (by omega), fun j _ => hpu j⟩⟩⟩
  have hal4 := hal.len
  obtain ⟨r1, r2⟩ := hal.row y (by omega)
  exact ⟨by omega, h3, by decide, by decide, by decide, by omega, by omega, by decide, beq_eq_false_iff_ne.2 r2, by omega, by omega, by omega, ⟨by omega, fun j _ => by rw [Nat.zero_add]⟩, hA y (by omega), y + 1, by omega, by omega, fun i _ => hU _ _ _ _ rfl, wr64 (by omega) (by omega) (by omega)⟩
 ·have hpz : ∀ j, (if j < z then vint IntKind.i64 (dpS f j) else vint IntKind.i64 0) = if j < z + 1 then vint IntKind.i64 (dpS f j) else vint IntKind.i64 0 := fun j => by
   by_cases hj : j = z
   ·subst hj
    have : dpS f j = 0 := by unfold dpS depS; rw [if_pos (by omega)]
    simp [this]
   ·simp only [show j < z + 1 ↔ j < z from by omega]
  refine ⟨h.simp z hz1 (by omega), by have := hal.len; omega, ⟨0, by omega, fun i _ => hr _ _ _, rfl⟩, fun y hy => ⟨fun h3 => ?_, fun h3 => ⟨z + 1, by omega, by omega, fun i _ => hr _ _ _, wr64 (by omega) (by omega) (by omega), fun j _ => hpz j⟩⟩⟩
  have hal4 := hal.len
  obtain ⟨r1, r2⟩ := hal.row y (by omega)
  exact ⟨by omega, h3, by decide, by decide, by decide, by omega, by omega, by decide, beq_eq_false_iff_ne.2 r2, by omega, by omega, by omega, ⟨by omega, fun j _ => by rw [Nat.zero_add]⟩, hA y (by omega), y + 1, by omega, by omega, fun i _ => hr _ _ _, wr64 (by omega) (by omega) (by omega)⟩
end Go.Proofs.YtekhlnihpfkkkaaGreatDoor
namespace Go.Proofs.YtekhlnihpfkkkaaGreatDoor
open Go.Eng
def hCk : FuncId → FH := fun _ => { rounds := 7, pc := fun f _ => bif Nat.ble 157 f && Nat.ble f 161 then some (vint .i64 0) else none, reg := fun _ => { sh := none, g := 1 } }
set_option maxRecDepth 100000 in
theorem fck_ok (f : Ft) (h0 : Pure Tryz.prog 157 [eFn f] (vint .i64 0)) (h1 : Pure Tryz.prog 158 [eFn f] (vint .i64 0)) (h2 : Pure Tryz.prog 159 [eFn f] (vint .i64 0)) (h3 : Pure Tryz.prog 160 [eFn f] (vint .i64 0)) (h4 : Pure Tryz.prog 161 [eFn f] (vint .i64 0)) : Pure Tryz.prog 44 [eFn f] (vint .i64 0) := by
 let K : D → Prop := fun x => endL (vint .i64 0) x []
 refine pure_byL 20 hCk (p :=
  let a0_1 : Int := (↑5 : Int); let a0_0 : List PV := [PV.agg [PV.s f.name, PV.v (Value.int IntKind.i64 f.ver), PV.lst 4 f.axes.length fun (i : Nat) => eAx (f.axes.getD i ax0), PV.lst 7 f.gls.length fun (i : Nat) => eGl (f.gls.getD i gl0), PV.lst 2 f.chars.length fun (i : Nat) => eR (f.chars.getD i ((0 : Int), (0 : Int))), PV.lst 1 f.lks.length fun (i : Nat) => eLk (f.lks.getD i []), PV.lst 3 f.kerns.length fun (i : Nat) => eT (f.kerns.getD i tn0)]]; (0 : Int) ≤ Int.ofNat 0 ∧ Int.ofNat 0 < a0_1 ∧ Eng.Pure Tryz.prog (157 : FuncId) a0_0 (vint IntKind.i64 (0 : Int)) ∧ (0 : Int) ≤ Int.ofNat 1 ∧ Int.ofNat 1 < a0_1 ∧ Eng.Pure Tryz.prog (158 : FuncId) a0_0 (vint IntKind.i64 (0 : Int)) ∧ (0 : Int) ≤ Int.ofNat 2 ∧ Int.ofNat 2 < a0_1 ∧ Eng.Pure Tryz.prog (159 : FuncId) a0_0 (vint IntKind.i64 (0 : Int)) ∧ (0 : Int) ≤ Int.ofNat 3 ∧ Int.ofNat 3 < a0_1 ∧ Eng.Pure Tryz.prog (160 : FuncId) a0_0 (vint IntKind.i64 (0 : Int)) ∧ (0 : Int) ≤ Int.ofNat 4 ∧ Int.ofNat 4 < a0_1 ∧ Eng.Pure Tryz.prog (161 : FuncId) a0_0 (vint IntKind.i64 (0 : Int)) ∧ K (D.p (PV.v (Value.int IntKind.i64 (Int.ofNat 0))))) (by kernel_rfl) ?_
 exact ⟨by decide, by decide, h0, by decide, by decide, h1, by decide, by decide, h2, by decide, by decide, h3, by decide, by decide, h4, leP_refl _⟩
end Go.Proofs.YtekhlnihpfkkkaaGreatDoor
