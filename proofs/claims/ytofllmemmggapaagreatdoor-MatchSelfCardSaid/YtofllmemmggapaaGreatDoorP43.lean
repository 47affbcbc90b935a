/- Texts laid together: MaMs, MaLex, MaPe, RfMetas, RfHold, MaRead. -/
import Derived.Test.YtofllmemmggapaaGreatDoorP24
import Derived.Test.YtofllmemmggapaaGreatDoorP42
import Derived.Test.YtofllmemmggapaaGreatDoorP36
import Derived.Deep.QuietTactic
import Derived.BigQuiet
import Derived.Test.YtofllmemmggapaaGreatDoorP35
import Derived.Test.YtofllmemmggapaaGreatDoorP41

/- Matching: it tells just whether there are types. No program in sight. -/
namespace Go.Proofs.YtofllmemmggapaaGreatDoor.Tp

theorem mT_eq (vars : List ByteArray) (p t : Ty) (ep et : List ByteArray) (f : Fnd) : mT vars p t ep et f = if p.kind = 1 then varM vars p.name t ep et f
    else if p.kind ≠ t.kind ∨ p.args.length ≠ t.args.length ∨ p.n ≠ t.n ∨ (p.kind = 3 ∧ p.name ≠ t.name) then (false, f)
    else if p.kind = 5 then mL vars p.args t.args (p.name :: ep) (t.name :: et) f else mL vars p.args t.args ep et f := by
  cases p with
  | mk k s n args => rw [mT]; rfl

/-- what is told of a list, if it is true -/
theorem mL_sound (vars : List ByteArray) : ∀ (ps ts : List Ty) (ep et : List ByteArray) (f f' : Fnd), (∀ p ∈ ps, MSound vars p ∧ Std p) → (∀ t ∈ ts, Mk t) → ps.length = ts.length → FGood vars f → mL vars ps ts ep et f = (true, f') →
    FGood vars f' ∧ Within f (lkF f') ∧ (∀ x, (∃ p ∈ ps, vnT x (dbT ep p)) → x ∈ vars → lkF f' x ≠ none) ∧ (∀ x, lkF f' x ≠ none → lkF f x ≠ none ∨ ∃ p ∈ ps, vnT x (dbT ep p)) ∧ ∀ v, Within f' v → (∀ x, x ∉ vars → v x = none) → ps.map (fun p => svT v (dbT ep p)) = ts.map (dbT et) := by
  intro ps
  induction ps with
  | nil =>
    intro ts ep et f f' _ _ hl hf h
    have : ts = [] := List.eq_nil_of_length_eq_zero hl.symm
    subst this
    rw [mL] at h
    injection h with _ h
    subst h
    exact ⟨hf, fun x u e => e, fun x hx => by obtain ⟨p, hp, _⟩ := hx; (cases hp), fun x hx => .inl hx, fun _ _ _ => rfl⟩
  | cons p ps ih =>
    intro ts ep et f f' hp ht hl hf h
    cases ts with
    | nil => cases hl
    | cons t ts =>
      rw [mL] at h
      cases hm : mT vars p t ep et f with
      | mk b f1 =>
        rw [hm] at h
        cases b with
        | false => simp at h
        | true =>
          rw [if_pos rfl] at h
          obtain ⟨g1, w1, d1, o1, s1⟩ := (hp p (by simp)).1 t ep et f f1 (hp p (by simp)).2 (ht t (by simp)) hf hm
          obtain ⟨g2, w2, d2, o2, s2⟩ := ih ts ep et f1 f' (fun q hq => hp q (by simp [hq])) (fun u hu => ht u (by simp [hu])) (by simpa using hl) g1 h
          refine ⟨g2, w1.trans w2, fun x hx hxv => ?_, fun x hx => ?_, fun v hv hvn => ?_⟩
          · obtain ⟨q, hq, hqx⟩ := hx
            rcases List.mem_cons.1 hq with rfl | hq
            · have := d1 x hqx hxv
              cases e : lkF f1 x with
              | none => exact absurd e this
              | some u => rw [w2 x u e]; simp
            · exact d2 x ⟨q, hq, hqx⟩ hxv
          · rcases o2 x hx with h | ⟨q, hq, hqx⟩
            · rcases o1 x h with h | h
              · exact .inl h
              · exact .inr ⟨p, by simp, h⟩
            · exact .inr ⟨q, by simp [hq], hqx⟩
          · rw [List.map_cons, List.map_cons, s1 v (w2.trans hv) hvn, s2 v hv hvn]

theorem mT_sound (vars : List ByteArray) : ∀ p : Ty, MSound vars p := by
  intro p
  induction p using Ty.ind with
  | h p ih =>
    intro t ep et f f' hp ht hf h
    rw [mT_eq] at h
    by_cases h1 : p.kind = 1
    · rw [if_pos h1] at h
      exact var_sound vars p t ep et f f' h1 hp ht hf h
    · rw [if_neg h1] at h
      split at h
      · injection h with h; cases h
      · next hc =>
        simp only [not_or, Classical.not_not, not_and] at hc
        obtain ⟨hk, hl, hn, h3⟩ := hc
        by_cases h5 : p.kind = 5
        · rw [if_pos h5] at h
          obtain ⟨g, wn, d, o, s⟩ := mL_sound vars p.args t.args _ _ f f' (fun q hq => ⟨ih q hq, hp.args q hq⟩) (mk_args ht) hl hf h
          rw [dbT_all _ _ h5, dbT_all _ _ (by rw [← hk]; exact h5)]
          refine ⟨g, wn, fun x hx hxv => ?_, fun x hx => ?_, fun v hv hvn => ?_⟩
          · rcases (vn_mk _ _ _ _ _).1 hx with h | ⟨a, ha, hax⟩
            · exact absurd h.1 (by decide)
            · obtain ⟨q, hq, rfl⟩ := List.mem_map.1 ha
              exact d x ⟨q, hq, hax⟩ hxv
          · rcases o x hx with h | ⟨q, hq, hqx⟩
            · exact .inl h
            · exact .inr ((vn_mk _ _ _ _ _).2 (.inr ⟨_, List.mem_map.2 ⟨q, hq, rfl⟩, hqx⟩))
          · rw [svT_mk, if_neg (by decide), List.map_map]
            congr 1
            exact s v hv hvn
        · rw [if_neg h5] at h
          obtain ⟨g, wn, d, o, s⟩ := mL_sound vars p.args t.args _ _ f f' (fun q hq => ⟨ih q hq, hp.args q hq⟩) (mk_args ht) hl hf h
          have ht1 : t.kind ≠ 1 := by rw [← hk]; exact h1
          have ht5 : t.kind ≠ 5 := by rw [← hk]; exact h5
          rw [dbT_other _ _ h1 h5, dbT_other _ _ ht1 ht5]
          refine ⟨g, wn, fun x hx hxv => ?_, fun x hx => ?_, fun v hv hvn => ?_⟩
          · rcases (vn_mk _ _ _ _ _).1 hx with h | ⟨a, ha, hax⟩
            · exact absurd h.1 h1
            · obtain ⟨q, hq, rfl⟩ := List.mem_map.1 ha
              exact d x ⟨q, hq, hax⟩ hxv
          · rcases o x hx with h | ⟨q, hq, hqx⟩
            · exact .inl h
            · exact .inr ((vn_mk _ _ _ _ _).2 (.inr ⟨_, List.mem_map.2 ⟨q, hq, rfl⟩, hqx⟩))
          · have hname : p.name = t.name := by
              by_cases hk3 : p.kind = 3
              · exact h3 hk3
              · have hkp := hp.kind
                have : p.kind = 2 ∨ p.kind = 4 := by omega
                rcases this with h | h
                · rw [(hp.k2 h).1, (ht.1.k2 (by rw [← hk]; exact h)).1]
                · rw [(hp.k4 h).1, (ht.1.k4 (by rw [← hk]; exact h)).1]
            rw [svT_mk, if_neg h1, List.map_map, hk, hname, hn]
            congr 1
            exact s v hv hvn

/-! ### the other way -/
def MComp (vars : List ByteArray) (p : Ty) : Prop := ∀ (t : Ty) (ep et : List ByteArray) (f : Fnd) (v : ByteArray → Option Ty), Std p → Mk t → FGood vars f → (∀ x u, v x = some u → Mono u) → (∀ x, x ∉ vars → v x = none) → (∀ x ∈ vars, vnT x (dbT ep p) → v x ≠ none) → Within f v →
  svT v (dbT ep p) = dbT et t → ∃ f', mT vars p t ep et f = (true, f') ∧ Within f' v

theorem var_comp (vars : List ByteArray) (p t : Ty) (ep et : List ByteArray) (f : Fnd) (v : ByteArray → Option Ty) (hk : p.kind = 1) (hp : Std p) (ht : Mk t) (hv : ∀ x u, v x = some u → Mono u) (hvn : ∀ x, x ∉ vars → v x = none) (hd : ∀ x ∈ vars, vnT x (dbT ep p) → v x ≠ none) (hw : Within f v)
    (e : svT v (dbT ep p) = dbT et t) : ∃ f', varM vars p.name t ep et f = (true, f') ∧ Within f' v := by
  obtain ⟨hn0, ha⟩ := hp.k1 hk
  unfold varM
  rw [dbT_var _ _ hk, hn0] at e hd
  unfold look at e hd
  by_cases hc : ((ixN ep p.name).isNone && hasN vars p.name) = true
  · rw [if_pos hc]
    rw [Bool.and_eq_true, Option.isNone_iff_eq_none, hasN_iff] at hc
    rw [hc.1] at e hd
    simp only at e hd
    have hne := hd p.name hc.2 ((vn_mk _ _ _ _ _).2 (.inl ⟨rfl, rfl⟩))
    cases hvp : v p.name with
    | none => exact absurd hvp hne
    | some u =>
      rw [svT_mk, if_pos rfl, hvp] at e
      simp only at e
      have hmu := hv _ _ hvp
      obtain ⟨etu, hfr⟩ := db_mono_inv t et u ht.1 hmu e.symm
      have ho : ownB t et = true := (own_iff t et).2 ⟨by rw [etu]; exact hmu.2, hfr⟩
      cases hl : lkF f p.name with
      | some u' =>
        have : u' = u := by have := hw _ _ hl; rw [hvp] at this; injection this with this; exact this.symm
        subst this
        simp only
        exact ⟨f, by rw [ho, etu]; simp, hw⟩
      | none =>
        simp only
        refine ⟨f ++ [(p.name, t)], by rw [ho], fun x u' e' => ?_⟩
        by_cases hx : p.name = x
        · subst hx
          rw [lk_snoc_new hl] at e'
          injection e' with e'
          rw [hvp, ← e', etu]
        · rw [lk_snoc_other hx] at e'
          exact hw _ _ e'
  · rw [if_neg hc]
    refine ⟨f, ?_, hw⟩
    have hres : t.kind = 1 ∧ ixN ep p.name = ixN et t.name ∧ ((ixN ep p.name).isSome = true ∨ p.name = t.name) := by
      cases he : ixN ep p.name with
      | some i =>
        rw [he] at e
        simp only at e
        rw [svT_mk, if_neg (by decide)] at e
        have hk6 : (dbT et t).kind = 6 := by rw [← e]; rfl
        by_cases h1 : t.kind = 1
        · obtain ⟨htn, _⟩ := ht.1.k1 h1
          rw [dbT_var _ _ h1] at e
          unfold look at e
          cases h2 : ixN et t.name with
          | some j =>
            rw [h2] at e
            simp only [Ty.mk.injEq] at e
            have : i = j := by omega
            subst this
            exact ⟨h1, rfl, .inl rfl⟩
          | none => rw [h2] at e; simp only [Ty.mk.injEq] at e; omega
        · exfalso
          have hkk := ht.1.kind
          by_cases h5 : t.kind = 5
          · rw [dbT_all _ _ h5] at hk6
            exact absurd hk6 (by show ¬ (5 : Int) = 6; decide)
          · rw [dbT_other _ _ h1 h5] at hk6
            have : t.kind = 6 := hk6
            omega
      | none =>
        rw [he] at e
        simp only at e
        have hnv : p.name ∉ vars := fun hm => hc (by rw [he, Bool.and_eq_true, hasN_iff]; exact ⟨rfl, hm⟩)
        rw [svT_mk, if_pos rfl, hvn _ hnv] at e
        simp only [List.map_nil] at e
        have hk1 : (dbT et t).kind = 1 := by rw [← e]; rfl
        by_cases h1 : t.kind = 1
        · rw [dbT_var _ _ h1] at e
          unfold look at e
          cases h2 : ixN et t.name with
          | some j => rw [h2] at e; simp only [Ty.mk.injEq] at e; omega
          | none =>
            rw [h2] at e
            simp only [Ty.mk.injEq] at e
            exact ⟨h1, rfl, .inr e.2.1⟩
        · exfalso
          have hkk := ht.1.kind
          by_cases h5 : t.kind = 5
          · rw [dbT_all _ _ h5] at hk1
            exact absurd hk1 (by show ¬ (5 : Int) = 1; decide)
          · rw [dbT_other _ _ h1 h5] at hk1
            exact h1 hk1
    obtain ⟨h1, h2, h3⟩ := hres
    rw [Prod.mk.injEq]
    refine ⟨?_, rfl⟩
    rw [Bool.and_eq_true, Bool.and_eq_true, Bool.or_eq_true]
    exact ⟨⟨by rw [h1]; rfl, by rw [h2]; simp⟩, h3.imp id fun h => (eqN_iff _ _).2 h⟩

theorem mL_comp (vars : List ByteArray) : ∀ (ps ts : List Ty) (ep et : List ByteArray) (f : Fnd) (v : ByteArray → Option Ty), (∀ p ∈ ps, MComp vars p ∧ Std p) → (∀ t ∈ ts, Mk t) → FGood vars f → (∀ x u, v x = some u → Mono u) → (∀ x, x ∉ vars → v x = none) → (∀ x ∈ vars, (∃ p ∈ ps, vnT x (dbT ep p)) → v x ≠ none) → Within f v →
    ps.map (fun p => svT v (dbT ep p)) = ts.map (dbT et) → ∃ f', mL vars ps ts ep et f = (true, f') ∧ Within f' v := by
  intro ps
  induction ps with
  | nil => intro ts ep et f v _ _ _ _ _ _ hw _; exact ⟨f, by rw [mL], hw⟩
  | cons p ps ih =>
    intro ts ep et f v hp ht hf hv hvn hd hw e
    cases ts with
    | nil => cases e
    | cons t ts =>
      rw [List.map_cons, List.map_cons, List.cons.injEq] at e
      obtain ⟨f1, hm, hw1⟩ := (hp p (by simp)).1 t ep et f v (hp p (by simp)).2 (ht t (by simp)) hf hv hvn (fun x hx hxn => hd x hx ⟨p, by simp, hxn⟩) hw e.1
      have hs := mT_sound vars p t ep et f f1 (hp p (by simp)).2 (ht t (by simp)) hf hm
      obtain ⟨f2, hm2, hw2⟩ := ih ts ep et f1 v (fun q hq => hp q (by simp [hq])) (fun u hu => ht u (by simp [hu])) hs.1 hv hvn (fun x hx ⟨q, hq, hqx⟩ => hd x hx ⟨q, by simp [hq], hqx⟩) hw1 e.2
      exact ⟨f2, by rw [mL, hm, if_pos rfl]; exact hm2, hw2⟩

theorem mT_comp (vars : List ByteArray) : ∀ p : Ty, MComp vars p := by
  intro p
  induction p using Ty.ind with
  | h p ih =>
    intro t ep et f v hp ht hf hv hvn hd hw e
    rw [mT_eq]
    by_cases h1 : p.kind = 1
    · rw [if_pos h1]
      exact var_comp vars p t ep et f v h1 hp ht hv hvn hd hw e
    · rw [if_neg h1]
      have hkt := ht.1.kind
      by_cases h5 : p.kind = 5
      · rw [dbT_all _ _ h5] at e hd
        rw [svT_mk, if_neg (by decide), List.map_map] at e
        have hk5 : t.kind = 5 := by
          have hk : (dbT et t).kind = 5 := by rw [← e]; rfl
          by_cases ht1 : t.kind = 1
          · rw [dbT_var _ _ ht1] at hk
            unfold look at hk
            cases h2 : ixN et t.name with
            | some j => rw [h2] at hk; exact absurd hk (by show ¬ (6 : Int) = 5; decide)
            | none => rw [h2] at hk; exact absurd hk (by show ¬ (1 : Int) = 5; decide)
          · by_cases ht5 : t.kind = 5
            · exact ht5
            · rw [dbT_other _ _ ht1 ht5] at hk; exact hk
        rw [dbT_all _ _ hk5] at e
        rw [Ty.mk.injEq] at e
        have e2 := e.2.2.2
        have hlen : p.args.length = t.args.length := by have := congrArg List.length e2; simpa using this
        rw [if_neg (by
          rintro (h | h | h | h)
          · exact h (h5.trans hk5.symm)
          · exact h hlen
          · exact h ((hp.k5 h5).1.trans (ht.1.k5 hk5).1.symm)
          · omega), if_pos h5]
        exact mL_comp vars p.args t.args _ _ f v (fun q hq => ⟨ih q hq, hp.args q hq⟩) (mk_args ht) hf hv hvn (fun x hx ⟨q, hq, hqx⟩ => hd x hx ((vn_mk _ _ _ _ _).2 (.inr ⟨_, List.mem_map.2 ⟨q, hq, rfl⟩, hqx⟩))) hw e2
      · rw [dbT_other _ _ h1 h5] at e hd
        rw [svT_mk, if_neg h1, List.map_map] at e
        have hkp := hp.kind
        have hk : (dbT et t).kind = p.kind := by rw [← e]; rfl
        have ht1 : t.kind ≠ 1 := fun ht1 => by
          rw [dbT_var _ _ ht1] at hk
          unfold look at hk
          cases h2 : ixN et t.name with
          | some j => rw [h2] at hk; have : (6 : Int) = p.kind := hk; omega
          | none => rw [h2] at hk; have : (1 : Int) = p.kind := hk; omega
        have ht5 : t.kind ≠ 5 := fun ht5 => by
          rw [dbT_all _ _ ht5] at hk
          have : (5 : Int) = p.kind := hk
          omega
        rw [dbT_other _ _ ht1 ht5, Ty.mk.injEq] at e
        obtain ⟨ek, en, em, ea⟩ := e
        have hlen : p.args.length = t.args.length := by have := congrArg List.length ea; simpa using this
        rw [if_neg (by
          rintro (h | h | h | h)
          · exact h ek
          · exact h hlen
          · exact h em
          · exact h.2 en), if_neg h5]
        exact mL_comp vars p.args t.args _ _ f v (fun q hq => ⟨ih q hq, hp.args q hq⟩) (mk_args ht) hf hv hvn (fun x hx ⟨q, hq, hqx⟩ => hd x hx ((vn_mk _ _ _ _ _).2 (.inr ⟨_, List.mem_map.2 ⟨q, hq, rfl⟩, hqx⟩))) hw ea

end Go.Proofs.YtofllmemmggapaaGreatDoor.Tp

/- What is put, and renamed, has names that are words. No program in sight. -/
namespace Go.Proofs.YtofllmemmggapaaGreatDoor.Tp
open Lx

theorem lname_lex (c : UInt8) (hc : lowerB c = true) (n : Nat) (h : n < 1000000000000) : LexN (lname ⟨#[c]⟩ n) := by
  have h1 := dec_digits n
  have h2 := dec_len n h
  unfold LexN
  have e : (lname ⟨#[c]⟩ n).data.toList = c :: Lib.decDigits n := lname_list [c] n
  rw [e]
  refine ⟨⟨by simp only [List.length_cons]; omega, fun d hd => ?_⟩, hc, ?_⟩
  · rcases List.mem_cons.1 hd with rfl | hd
    · simp [innerB, hc]
    · exact digit_innerB (h1.1 d hd)
  · rw [← Bool.not_eq_true, List.contains_iff_mem]
    intro hk
    cases hd : Lib.decDigits n with
    | nil => have := h1.2.1; rw [hd] at this; simp at this
    | cons d ds =>
      have hdig := h1.1 d (by rw [hd]; simp)
      rw [hd] at hk
      unfold digitB at hdig
      simp only [decide_eq_true_eq] at hdig
      simp only [keys, List.mem_cons, List.not_mem_nil, or_false, List.cons.injEq] at hk
      rcases hk with hk | hk | hk | hk | hk | hk <;> (have := hk.2.1; subst this; revert hdig; decide)
theorem fname_lex (nm : ByteArray) (hn : LexN nm) (i : Nat) (h : i < 1000000000000) : LexN (fname nm i) := by
  obtain ⟨hN, hlow, _⟩ := hn
  have h1 := dec_digits i
  have h2 := dec_len i h
  cases hl : nm.data.toList with
  | nil => have := hN.len.1; rw [hl] at this; simp at this
  | cons c r =>
    rw [hl] at hlow
    have hc : lowerB c = true := hlow
    have e : (fname nm i).data.toList = c :: 95 :: Lib.decDigits i := by
      unfold fname
      rw [itoa_dec]
      have e0 : (nm.extract 0 1).data.toList = [c] := by
        rw [ByteArray.data_extract, Array.toList_extract, hl]; rfl
      rw [ByteArray.data_append, ByteArray.data_append, Array.toList_append, Array.toList_append, e0]; rfl
    unfold LexN
    rw [e]
    refine ⟨⟨by simp only [List.length_cons]; omega, fun d hd => ?_⟩, hc, ?_⟩
    · rcases List.mem_cons.1 hd with rfl | hd
      · simp [innerB, hc]
      · rcases List.mem_cons.1 hd with rfl | hd
        · decide
        · exact digit_innerB (h1.1 d hd)
    · rw [← Bool.not_eq_true, List.contains_iff_mem]
      intro hk
      simp only [keys, List.mem_cons, List.not_mem_nil, or_false, List.cons.injEq] at hk
      rcases hk with hk | hk | hk | hk | hk | hk <;> (have := hk.2.1; revert this; decide)
theorem freshT_lex (nm : ByteArray) (hn : LexN nm) (but : List ByteArray) (h : but.length ≤ 100000000000) : LexN (freshT nm but) := by
  have hs := firstN_spec (fname nm) (fun _ _ => fname_inj) but 0
  exact fname_lex nm hn _ (by omega)

theorem lexN_of {t : Ty} (h : LexT t) (hk : t.kind = 1 ∨ t.kind = 5) : LexN t.name := ((lex_iff t).1 h).1.1 hk
theorem lex_all {s : ByteArray} {b : Ty} (hs : LexN s) (hb : LexT b) : LexT (tAllB s b) := by
  refine (lex_iff _).2 ⟨⟨fun _ => hs, fun h => absurd h (by show ¬ (5 : Int) = 3; decide), fun h => absurd h (by show ¬ (5 : Int) = 2; decide)⟩, fun a ha => ?_⟩
  obtain rfl := List.mem_singleton.1 ha
  exact hb
theorem lex_args {t : Ty} (h : LexT t) (l : List Ty) (hl : ∀ a ∈ l, LexT a) : LexT (.mk t.kind t.name t.n l) := (lex_iff _).2 ⟨((lex_iff t).1 h).1, hl⟩
theorem lex_var {s : ByteArray} (hs : LexN s) : LexT (.mk 1 s 0 []) := (lex_iff _).2 ⟨⟨fun _ => hs, fun h => absurd h (by show ¬ (1 : Int) = 3; decide), fun h => absurd h (by show ¬ (1 : Int) = 2; decide)⟩, fun a ha => by cases ha⟩

theorem sizeL_same (f : Ty → Ty) (l : List Ty) (h : ∀ a ∈ l, (f a).size = a.size) : sizeL (l.map f) = sizeL l := by
  induction l with
  | nil => rfl
  | cons a l ih => rw [List.map_cons, sizeL, sizeL, h a (by simp), ih fun b hb => h b (by simp [hb])]

theorem renF_lex : ∀ (d : Nat) (fr nw : ByteArray) (t : Ty), t.depth ≤ d → Std t → LexT t → LexN nw → t.size ≤ 10000000000 → LexT (renF d fr nw t) ∧ (renF d fr nw t).size = t.size := by
  intro d
  induction d with
  | zero => intro fr nw t h; rw [t.depth_eq] at h; omega
  | succ d ih =>
    intro fr nw t h hs hl hn hz
    have hd : ∀ a ∈ t.args, a.depth ≤ d := fun a ha => by have := depth_arg _ ha; rw [t.depth_eq] at h; omega
    have hsz : ∀ a ∈ t.args, a.size ≤ 10000000000 := fun a ha => by have := size_arg _ ha; rw [t.size_eq] at hz; omega
    have hla := ((lex_iff t).1 hl).2
    rw [renF]
    split
    · next hc =>
      simp only [Bool.and_eq_true, beq_iff_eq, eqN_iff] at hc
      obtain ⟨h1, h2⟩ := hs.k1 hc.1
      rw [hc.1, h1, h2]
      exact ⟨lex_var hn, by rw [Ty.size_eq, t.size_eq, h2]; rfl⟩
    · split
      · exact ⟨hl, rfl⟩
      · split
        · next h1 h2 hc =>
          simp only [Bool.and_eq_true, beq_iff_eq] at hc
          obtain ⟨b, hb, hb0⟩ := std_k5 hs hc.1
          rw [hb0]
          have hbm : b ∈ t.args := by rw [hb]; simp
          have hfl := freeT_len b
          have hfx := freshT_lex nw hn (freeT b ++ [fr, nw]) (by have := hsz b hbm; simp; omega)
          generalize freshT nw (freeT b ++ [fr, nw]) = n at *
          have h1 := renF_std d nw n b (hd b hbm) (hs.args b hbm)
          have h2 := ih nw n b (hd b hbm) (hs.args b hbm) (hla b hbm) hfx (hsz b hbm)
          have h3 := ih fr nw (renF d nw n b) (by rw [h1.1]; exact hd b hbm) h1.2.1 h2.1 hn (by rw [h2.2]; exact hsz b hbm)
          refine ⟨lex_all hfx h3.1, ?_⟩
          rw [Ty.size_eq, t.size_eq, hb]
          show sizeL [_] + 1 = _
          rw [sizeL, sizeL, sizeL, sizeL, h3.2, h2.2]
        · refine ⟨lex_args hl _ fun a ha => ?_, ?_⟩
          · obtain ⟨b, hb, rfl⟩ := List.mem_map.1 ha
            exact (ih fr nw b (hd b hb) (hs.args b hb) (hla b hb) hn (hsz b hb)).1
          · rw [Ty.size_eq, t.size_eq]
            show sizeL (t.args.map _) + 1 = _
            rw [sizeL_same _ _ fun a ha => (ih fr nw a (hd a ha) (hs.args a ha) (hla a ha) hn (hsz a ha)).2]

theorem PutF_lex (nm : ByteArray) (u : Ty) (hul : LexT u) (huz : u.size ≤ 10000000000) : ∀ (d : Nat) (t : Ty), t.depth ≤ d → Std t → LexT t → t.size ≤ 10000000000 → LexT (PutF d nm u t) := by
  intro d
  induction d with
  | zero => intro t h; rw [t.depth_eq] at h; omega
  | succ d ih =>
    intro t h hs hl hz
    have hd : ∀ a ∈ t.args, a.depth ≤ d := fun a ha => by have := depth_arg _ ha; rw [t.depth_eq] at h; omega
    have hsz : ∀ a ∈ t.args, a.size ≤ 10000000000 := fun a ha => by have := size_arg _ ha; rw [t.size_eq] at hz; omega
    have hla := ((lex_iff t).1 hl).2
    rw [PutF]
    split
    · exact hl
    · split
      · exact hul
      · split
        · next hc =>
          simp only [Bool.and_eq_true, beq_iff_eq] at hc
          obtain ⟨b, hb, hb0⟩ := std_k5 hs hc.1
          rw [hb0]
          have hbm : b ∈ t.args := by rw [hb]; simp
          have hfl := freeT_len b
          have hfu := freeT_len u
          have hfx := freshT_lex t.name (lexN_of hl (.inr hc.1)) (freeT u ++ freeT b ++ [t.name, nm]) (by have := hsz b hbm; simp; omega)
          generalize freshT t.name (freeT u ++ freeT b ++ [t.name, nm]) = n at *
          have hr := renF_std b.depth t.name n b (Nat.le_refl _) (hs.args b hbm)
          have hr2 := renF_lex b.depth t.name n b (Nat.le_refl _) (hs.args b hbm) (hla b hbm) hfx (hsz b hbm)
          unfold renAll
          rw [hb0]
          exact lex_all hfx (ih (renT t.name n b) (by show (renF _ _ _ _).depth ≤ d; rw [hr.1]; exact hd b hbm) hr.2.1 hr2.1 (by show (renF _ _ _ _).size ≤ _; rw [hr2.2]; exact hsz b hbm))
        · refine lex_args hl _ fun a ha => ?_
          obtain ⟨b, hb, rfl⟩ := List.mem_map.1 ha
          exact ih b (hd b hb) (hs.args b hb) (hla b hb) (hsz b hb)
theorem PutT_mk (nm : ByteArray) (u t : Ty) (ht : Mk t) (hu : Mk u) (hs : t.size ≤ 10000000000) (hus : u.size ≤ 10000000000) : Mk (PutT nm u t) :=
  ⟨PutT_std nm u t ht.1 hu.1, PutF_lex nm u hu.2 hus _ _ (Nat.le_refl _) ht.1 ht.2 hs⟩

end Go.Proofs.YtofllmemmggapaaGreatDoor.Tp

/- Matching's answer; for alls at the begin taken away. No program in sight. -/
namespace Go.Proofs.YtofllmemmggapaaGreatDoor.Tp

/-! ### Match -/
/-- what Match tells -/
def MatchT (p t : Ty) (vars : List ByteArray) : Option Fnd :=
  if (mT vars p t [] [] []).1 then some ((freeT p).filterMap fun n => (lkF (mT vars p t [] [] []).2 n).map fun u => (n, u)) else none
/-- types by which one is the other -/
structure IsM (vars : List ByteArray) (p t : Ty) (v : ByteArray → Option Ty) : Prop where
  mono : ∀ x u, v x = some u → Mono u
  out : ∀ x, x ∉ vars → v x = none
  dom : ∀ x ∈ vars, fvT x p → v x ≠ none
  eq : svT v (dbT [] p) = dbT [] t
def pairsT (p : Ty) (v : ByteArray → Option Ty) : Fnd := (freeT p).filterMap fun n => (v n).map fun u => (n, u)
theorem fgood_nil (vars : List ByteArray) : FGood vars [] := ⟨fun x u e => (by cases e), fun x u e => (by cases e)⟩
theorem match_some {vars : List ByteArray} {p t : Ty} (hp : Std p) (ht : Mk t) {l : Fnd} (h : MatchT p t vars = some l) : ∃ v, IsM vars p t v ∧ l = pairsT p v ∧ (∀ x u, v x = some u → Mk u) := by
  unfold MatchT at h
  split at h
  · next hc =>
    injection h with h
    obtain ⟨g, _, d, o, s⟩ := mT_sound vars p t [] [] [] (mT vars p t [] [] []).2 hp ht (fgood_nil vars) (by rw [← hc])
    refine ⟨lkF (mT vars p t [] [] []).2, ⟨fun x u e => (g.val x u e).1, fun x hx => ?_, fun x hx hf => d x ((vn_db x p [] hp).2 ⟨hf, by simp⟩) hx, s _ (fun x u e => e) fun x hx => ?_⟩, h.symm, fun x u e => (g.val x u e).2⟩
    all_goals
      cases e : lkF (mT vars p t [] [] []).2 x with
      | none => rfl
      | some u => exact absurd (g.dom x u e) hx
  · cases h
theorem filterMap_congr' {α β : Type} {f g : α → Option β} {l : List α} (h : ∀ a ∈ l, f a = g a) : l.filterMap f = l.filterMap g := by
  induction l with
  | nil => rfl
  | cons a l ih => rw [List.filterMap_cons, List.filterMap_cons, h a (by simp), ih fun b hb => h b (by simp [hb])]
theorem match_of {vars : List ByteArray} {p t : Ty} (hp : Std p) (ht : Mk t) {v : ByteArray → Option Ty} (h : IsM vars p t v) : MatchT p t vars = some (pairsT p v) := by
  obtain ⟨f', hm, hw⟩ := mT_comp vars p t [] [] [] v hp ht (fgood_nil vars) h.mono h.out (fun x hx hn => h.dom x hx ((vn_db x p [] hp).1 hn).1) (fun x u e => by cases e) h.eq
  obtain ⟨g, _, d, _, _⟩ := mT_sound vars p t [] [] [] f' hp ht (fgood_nil vars) hm
  unfold MatchT pairsT
  rw [hm, if_pos rfl]
  congr 1
  refine filterMap_congr' fun n hn => ?_
  have hfv := (mem_free n p).1 hn
  have : lkF f' n = v n := by
    cases e : lkF f' n with
    | some u => exact (hw n u e).symm
    | none =>
      cases e2 : v n with
      | none => rfl
      | some u =>
        have hv : n ∈ vars := Classical.byContradiction fun hc => by rw [h.out n hc] at e2; cases e2
        exact absurd e (d n ((vn_db n p [] hp).2 ⟨hfv, by simp⟩) hv)
  show (lkF f' n).map _ = _
  rw [this]

/-! ### Peel -/
def peelF (L : ByteArray) (but : List ByteArray) : Nat → Nat → Ty → List ByteArray × Ty
  | 0, _, t => ([], t)
  | d + 1, n, t => if t.kind = 5 then (lname L (nx (lname L) but n) :: (peelF L but d (nx (lname L) but n + 1) (PutT t.name (.mk 1 (lname L (nx (lname L) but n)) 0 []) (arg0T t))).1,
      (peelF L but d (nx (lname L) but n + 1) (PutT t.name (.mk 1 (lname L (nx (lname L) but n)) 0 []) (arg0T t))).2) else ([], t)
def PeelT (L : ByteArray) (but : List ByteArray) (t : Ty) : List ByteArray × Ty := peelF L but t.depth 0 t

/-- behind k for alls -/
def stF : Nat → Ty → Ty
  | 0, X => X
  | k + 1, X => stF k (arg0T X)
def allsN : Nat → Ty → Prop
  | 0, _ => True
  | k + 1, X => X.kind = 5 ∧ (∃ b, X = .mk 5 emp 0 [b]) ∧ allsN k (arg0T X)
theorem arg0_mk (k : Int) (s : ByteArray) (n : Int) (b : Ty) : arg0T (.mk k s n [b]) = b := rfl
theorem st_ab (env : List ByteArray) : ∀ (k d : Nat) (Y : Ty), allsN k Y → abT env (d + k) (stF k Y) = stF k (abT env d Y) ∧ allsN k (abT env d Y) := by
  intro k
  induction k with
  | zero => intro d Y _; exact ⟨rfl, trivial⟩
  | succ k ih =>
    intro d Y h
    obtain ⟨_, ⟨b, rfl⟩, ha⟩ := h
    rw [arg0_mk] at ha
    have e : abT env d (.mk 5 emp 0 [b]) = .mk 5 emp 0 [abT env (d + 1) b] := by rw [abT_mk, if_neg (by decide), if_pos rfl]; rfl
    obtain ⟨h1, h2⟩ := ih (d + 1) b ha
    rw [e]
    refine ⟨?_, rfl, ⟨_, rfl⟩, by rw [arg0_mk]; exact h2⟩
    show abT env (d + (k + 1)) (stF k (arg0T (.mk 5 emp 0 [b]))) = stF k (arg0T (.mk 5 emp 0 [abT env (d + 1) b]))
    rw [arg0_mk, arg0_mk, ← h1]
    congr 1
    omega
theorem alls_uniq : ∀ (k k' : Nat) (X : Ty), allsN k X → (stF k X).kind ≠ 5 → allsN k' X → (stF k' X).kind ≠ 5 → k = k' := by
  intro k
  induction k with
  | zero =>
    intro k' X _ h0 h1 _
    cases k' with
    | zero => rfl
    | succ k' => exact absurd h1.1 h0
  | succ k ih =>
    intro k' X h1 h2 h3 h4
    cases k' with
    | zero => exact absurd h1.1 h4
    | succ k' => rw [ih k' (arg0T X) h1.2.2 h2 h3.2.2 h4]
def wrapN : Nat → Ty → Ty
  | 0, X => X
  | k + 1, X => .mk 5 emp 0 [wrapN k X]
theorem wrap_st : ∀ (k : Nat) (X : Ty), allsN k X → wrapN k (stF k X) = X := by
  intro k
  induction k with
  | zero => intro X _; rfl
  | succ k ih =>
    intro X h
    obtain ⟨_, ⟨b, rfl⟩, ha⟩ := h
    show Ty.mk 5 emp 0 [wrapN k (stF k (arg0T (.mk 5 emp 0 [b])))] = _
    rw [ih _ ha, arg0_mk]
theorem db_foldr (B : Ty) : ∀ (ns env : List ByteArray), dbT env (ns.foldr tAllB B) = wrapN ns.length (dbT (ns.reverse ++ env) B) := by
  intro ns
  induction ns with
  | nil => intro env; rfl
  | cons x ns ih =>
    intro env
    rw [List.foldr_cons, dbT_all _ _ (show (tAllB x _).kind = 5 from rfl)]
    show Ty.mk 5 emp 0 [dbT (x :: env) (ns.foldr tAllB B)] = _
    rw [ih (x :: env), List.reverse_cons, List.append_assoc]; rfl

/-- what Peel tells -/
structure PeelOk (L : ByteArray) (but : List ByteArray) (n : Nat) (t : Ty) (r : List ByteArray × Ty) : Prop where
  good : Mk r.2
  k5 : r.2.kind ≠ 5
  names : ∀ x ∈ r.1, x ∉ but ∧ ∃ j, n ≤ j ∧ x = lname L j
  nodup : r.1.Nodup
  db : dbT r.1.reverse r.2 = stF r.1.length (dbT [] t)
  alls : allsN r.1.length (dbT [] t)
  size : r.2.size ≤ t.size
  depth : r.2.depth ≤ t.depth
  len : r.1.length ≤ t.depth
theorem sb_self (y : ByteArray) : ∀ (X : Ty) (d : Nat), DbW d X → sbT (isVar y) (.mk 1 y 0 []) X = X := by
  intro X
  induction X using Ty.ind with
  | h X ih =>
    cases X with
    | mk k s n args =>
      intro d hw
      obtain ⟨w1, _, wa⟩ := (dbw_mk d k s n args).1 hw
      rw [sbT_mk, isVar_mk]
      split
      · next h =>
        simp only [Bool.and_eq_true, beq_iff_eq, eqN_iff] at h
        obtain ⟨rfl, rfl⟩ := w1 h.1
        rw [h.1, h.2]
      · congr 1
        exact map_id_of fun a ha => ih a ha _ (wa a ha)
theorem vn_sb (x y n : ByteArray) : ∀ X : Ty, vnT x (sbT (isVar y) (.mk 1 n 0 []) X) → x = n ∨ (vnT x X ∧ x ≠ y) := by
  intro X
  induction X using Ty.ind with
  | h X ih =>
    cases X with
    | mk k s m args =>
      intro h
      rw [sbT_mk, isVar_mk] at h
      split at h
      · rcases (vn_mk _ _ _ _ _).1 h with h | ⟨a, ha, _⟩
        · exact .inl h.2.symm
        · cases ha
      · next hc =>
        rcases (vn_mk _ _ _ _ _).1 h with h | ⟨a, ha, hax⟩
        · refine .inr ⟨(vn_mk _ _ _ _ _).2 (.inl h), fun e => hc ?_⟩
          rw [h.1, h.2, e, (eqN_iff y y).2 rfl]; rfl
        · obtain ⟨b, hb, rfl⟩ := List.mem_map.1 ha
          rcases ih b hb hax with h | h
          · exact .inl h
          · exact .inr ⟨(vn_mk _ _ _ _ _).2 (.inr ⟨b, hb, h.1⟩), h.2⟩
/-- behind a for all, with a name in the place of its own -/
theorem put_name_db (y n : ByteArray) (b : Ty) (env : List ByteArray) (hb : Std b) (hn : n = y ∨ ¬ fvT n b) : dbT (n :: env) (PutT y (.mk 1 n 0 []) b) = dbT (y :: env) b := by
  rcases hn with rfl | hn
  · refine db_env (PutT_std n _ b hb (std_var n)) hb ?_ _
    rw [db_PutT n _ b hb]
    exact sb_self n (dbT [] b) 0 (db_dbw b [] hb)
  · exact put_var_db y n b env hb hn
theorem put_name_fv (x y n : ByteArray) (b : Ty) (hb : Std b) (h : fvT x (PutT y (.mk 1 n 0 []) b)) : x = n ∨ (fvT x b ∧ x ≠ y) := by
  have h1 := (vn_db x _ [] (PutT_std y _ b hb (std_var n))).2 ⟨h, by simp⟩
  rw [db_PutT y _ b hb] at h1
  exact (vn_sb x y n _ h1).imp id fun h => ⟨((vn_db x b [] hb).1 h.1).1, h.2⟩

theorem peel_ok (c : UInt8) (hc : Lx.lowerB c = true) (but : List ByteArray) : ∀ (d n : Nat) (t : Ty), t.depth ≤ d → Mk t → t.size ≤ 10000000000 → (∀ x, fvT x t → x ∈ but ∨ ∃ j, j < n ∧ x = lname ⟨#[c]⟩ j) → n + d * (but.length + 1) ≤ 100000000000 →
    PeelOk ⟨#[c]⟩ but n t (peelF ⟨#[c]⟩ but d n t) := by
  intro d
  induction d with
  | zero => intro n t h; rw [t.depth_eq] at h; omega
  | succ d ih =>
    intro n t hd hm hz hfv hn
    by_cases h5 : t.kind = 5
    · obtain ⟨b, hb, hb0⟩ := std_k5 hm.1 h5
      have hbm : b ∈ t.args := by rw [hb]; simp
      have hmb := mk_args hm b hbm
      have hsp := firstN_spec (lname ⟨#[c]⟩) (fun _ _ => lname_inj) but n
      obtain ⟨m, hm0⟩ : ∃ m, nx (lname ⟨#[c]⟩) but n = m := ⟨_, rfl⟩
      rw [show firstN (lname ⟨#[c]⟩) but (but.length + 1) n = m from hm0] at hsp
      rw [Nat.add_mul] at hn
      have hx : LexN (lname ⟨#[c]⟩ m) := lname_lex c hc m (by omega)
      have hxb : lname ⟨#[c]⟩ m ∉ but := (hasN_false _ _).1 hsp.2.2.2
      have hmv : Mk (.mk 1 (lname ⟨#[c]⟩ m) 0 []) := ⟨std_var _, lex_var hx⟩
      have hxf : lname ⟨#[c]⟩ m = t.name ∨ ¬ fvT (lname ⟨#[c]⟩ m) b := by
        by_cases he : lname ⟨#[c]⟩ m = t.name
        · exact .inl he
        · refine .inr fun h => ?_
          rcases hfv _ ((fvT_iff _ t).2 (.inr ⟨⟨b, hbm, h⟩, fun e => he e.2.symm⟩)) with h | ⟨j, hj, e⟩
          · exact hxb h
          · have := lname_inj e; omega
      have hsb := size_arg _ hbm
      have hdb := depth_arg _ hbm
      rw [t.size_eq] at hz
      rw [t.depth_eq] at hd
      have hps := PutT_size t.name (.mk 1 (lname ⟨#[c]⟩ m) 0 []) b hmb.1 (std_var _)
      have hpd := PutT_depth t.name (.mk 1 (lname ⟨#[c]⟩ m) 0 []) b hmb.1 (std_var _)
      have e1 : (Ty.mk 1 (lname ⟨#[c]⟩ m) 0 []).size = 1 := rfl
      have e2 : (Ty.mk 1 (lname ⟨#[c]⟩ m) 0 []).depth = 1 := rfl
      rw [e1, Nat.mul_one] at hps
      rw [e2] at hpd
      have hmk := PutT_mk t.name (.mk 1 (lname ⟨#[c]⟩ m) 0 []) b hmb hmv (by omega) (by rw [e1]; omega)
      have R := ih (m + 1) (PutT t.name (.mk 1 (lname ⟨#[c]⟩ m) 0 []) b) (by omega) hmk (by omega) (fun x h => by
        rcases put_name_fv x _ _ b hmb.1 h with h | h
        · exact .inr ⟨m, by omega, h⟩
        · rcases hfv x ((fvT_iff x t).2 (.inr ⟨⟨b, hbm, h.1⟩, fun e => h.2 e.2.symm⟩)) with h | ⟨j, hj, e⟩
          · exact .inl h
          · exact .inr ⟨j, by omega, e⟩) (by omega)
      have hdbeq := put_name_db t.name (lname ⟨#[c]⟩ m) b [] hmb.1 hxf
      have er : peelF ⟨#[c]⟩ but (d + 1) n t = (lname ⟨#[c]⟩ m :: (peelF ⟨#[c]⟩ but d (m + 1) (PutT t.name (.mk 1 (lname ⟨#[c]⟩ m) 0 []) b)).1, (peelF ⟨#[c]⟩ but d (m + 1) (PutT t.name (.mk 1 (lname ⟨#[c]⟩ m) 0 []) b)).2) := by
        conv => lhs; unfold peelF
        rw [if_pos h5, hm0, hb0]
      rw [er]
      generalize peelF ⟨#[c]⟩ but d (m + 1) (PutT t.name (.mk 1 (lname ⟨#[c]⟩ m) 0 []) b) = r at *
      have hdt : dbT [] t = .mk 5 emp 0 [dbT [t.name] b] := by rw [dbT_all _ _ h5, hb]; rfl
      have hst := st_ab [lname ⟨#[c]⟩ m] r.1.length 0 _ R.alls
      rw [← db_ab [lname ⟨#[c]⟩ m] _ hmk.1, hdbeq, Nat.zero_add] at hst
      refine ⟨R.good, R.k5, fun x hx => ?_, ?_, ?_, ?_, ?_, ?_, ?_⟩
      · rcases List.mem_cons.1 hx with rfl | hx
        · exact ⟨hxb, m, hsp.1, rfl⟩
        · obtain ⟨h1, j, h2, h3⟩ := R.names x hx
          exact ⟨h1, j, by omega, h3⟩
      · refine List.nodup_cons.2 ⟨fun h => ?_, R.nodup⟩
        obtain ⟨_, j, h2, h3⟩ := R.names _ h
        have := lname_inj h3; omega
      · show dbT (lname ⟨#[c]⟩ m :: r.1).reverse r.2 = stF (r.1.length + 1) (dbT [] t)
        rw [List.reverse_cons, db_append _ _ _ R.good.1, List.length_reverse, R.db, hst.1, hdt]; rfl
      · show allsN (r.1.length + 1) (dbT [] t)
        rw [hdt]
        exact ⟨rfl, ⟨_, rfl⟩, hst.2⟩
      · show r.2.size ≤ t.size
        have := R.size; rw [t.size_eq]; omega
      · show r.2.depth ≤ t.depth
        have := R.depth; rw [t.depth_eq]; omega
      · show r.1.length + 1 ≤ t.depth
        have := R.len; rw [t.depth_eq]; omega
    · have er : peelF ⟨#[c]⟩ but (d + 1) n t = ([], t) := by
        unfold peelF
        rw [if_neg h5]
      rw [er]
      exact ⟨hm, h5, fun x hx => (by cases hx), List.nodup_nil, rfl, trivial, Nat.le_refl _, Nat.le_refl _, Nat.zero_le _⟩

/-- with its for alls around it again -/
theorem PeelOk.again {L : ByteArray} {but : List ByteArray} {n : Nat} {t : Ty} {r : List ByteArray × Ty} (R : PeelOk L but n t r) : dbT [] (r.1.foldr tAllB r.2) = dbT [] t := by
  rw [db_foldr, List.append_nil, R.db, wrap_st _ _ R.alls]

end Go.Proofs.YtofllmemmggapaaGreatDoor.Tp

/- The walk of the document's metas and Metas. (Printed by gen_rffree.py.) -/
namespace Go.Proofs.YtofllmemmggapaaGreatDoor.Tp
open Go.RowKit

theorem meta_ns : ∀ (t : Ty) (out : List Int) (ns ns' : List ByteArray), walkF metaStep t out ns = walkF metaStep t out ns' := by
  intro t
  induction t using Ty.ind with
  | h t ih =>
    intro out ns ns'
    rw [walkF_eq, walkF_eq]
    have : ∀ (l : List Ty) (out : List Int) (ns ns' : List ByteArray), (∀ a ∈ l, ∀ (out : List Int) (ns ns' : List ByteArray), walkF metaStep a out ns = walkF metaStep a out ns') → walkL metaStep l out ns = walkL metaStep l out ns' := by
      intro l
      induction l with
      | nil => intro out ns ns' _; rfl
      | cons a l ihl => intro out ns ns' h; rw [walkL, walkL, h a (by simp) out ns ns']; exact ihl _ _ _ fun b hb => h b (by simp [hb])
    exact this t.args _ _ _ ih
theorem walkM_take (ts : List Ty) (i : Nat) (h : i < ts.length) (g : List Int) : walkL metaStep (ts.take (i + 1)) g [] = walkF metaStep ts[i] (walkL metaStep (ts.take i) g []) [] := walkL_take metaStep ts i h g []
theorem walkM_len (l : List Ty) (out : List Int) : (walkL metaStep l out []).length ≤ out.length + sizeL l := by
  induction l generalizing out with
  | nil => simp [walkL]
  | cons t l ih => rw [walkL, sizeL]; have := ih (walkF metaStep t out []); have := metaAcc_len t out []; omega
theorem walkM_ns (l : List Ty) (out : List Int) (ns : List ByteArray) : walkL metaStep l out ns = walkL metaStep l out [] := by
  induction l generalizing out with
  | nil => rfl
  | cons t l ih => rw [walkL, walkL, meta_ns t out ns []]; exact ih _

def MetasPostR (w : World) (l : List Int) (e : Ending) (w' : World) : Prop := ∃ v, e = .returned v ∧ NumsLow w' v l ∧ Below w.heap.size w w'
def RMetasSaid (t : Ty) : Prop := ∀ (S : Nat → Prop) (a : Option Addr) (c : Nat) (w : World) (vo : Value) (out : List Int), ArgsAt S w (.slice a t.args.length c) t.args → (∀ b, S b → b < w.heap.size) → Wf t → NumsLow w vo out →
    out.length + t.size ≤ 1000000000000 → Calls Tryz.prog 56 #[tv t a c, vo] w (MetasPostR w (walkF metaStep t out []))

theorem R4.drawn {w : World} {b : Nat} {u0 u1 u2 u3 : Value} (h : R4 w b u0 u1 u2 u3) (n : Nat) : R4 (w.drewN n) b u0 u1 u2 u3 := h.low (drawn_below (Below.refl _ _) n)
theorem any_none {l : List Int} {k : Nat} (h : k < l.length) {x : Int} (h1 : x ∉ l.take k) (h2 : l[k] ≠ x) : x ∉ l.take (k + 1) := by
  rw [List.take_add_one, List.getElem?_eq_getElem h]
  intro h'
  rcases List.mem_append.1 h' with h' | h'
  · exact h1 h'
  · simp only [Option.toList_some, List.mem_singleton] at h'; exact h2 h'.symm

set_option maxRecDepth 100000 in
set_option maxHeartbeats 1600000 in
theorem rmetas_meta (t : Ty) (hk : t.kind = 2) (hta : t.args = []) : RMetasSaid t := by
  intro S a c w vo out hA hS hw ho hlo
  obtain ⟨⟨ao, co, rfl, hc1, hl1, hcells⟩, hnil⟩ := id ho
  have hz : Below w.heap.size w (w.alloc (.cells #[.int .i64 t.kind, .string t.name, .int .i64 t.n, .slice a t.args.length c] 29)) := (Below.refl w.heap.size w).alloc (Nat.le_refl _) (.cells #[.int .i64 t.kind, .string t.name, .int .i64 t.n, .slice a t.args.length c] 29)
  have k4 := R4.new w (.int .i64 t.kind) (.string t.name) (.int .i64 t.n) (.slice a t.args.length c)
  have E : walkF metaStep t out [] = if out.contains t.n then out else out ++ [t.n] := by
    rw [walkF_eq, hta, walkL]; unfold metaStep; rw [hk]; cases out.contains t.n <;> rfl
  have HOW := Lib.hid (ho.low hz)
  have HCC : Hid (out = [] ∨ ∃ b off, ao = some ⟨b, off, none⟩ ∧ ∀ j (h : j < out.length), (w.alloc (.cells #[.int .i64 t.kind, .string t.name, .int .i64 t.n, .slice a t.args.length c] 29)).cell? ⟨b, off + j, none⟩ = some (.int .i64 out[j])) := Lib.hid (hcells.imp id fun ⟨b, off, e, hb, hcc⟩ => ⟨b, off, e, fun j hj => (hz.cell (p := ⟨b, off + j, none⟩) hb).trans (hcc j hj)⟩)
  have e1 : (t.kind == 2) = true := by rw [hk]; rfl
  have c0 := k4.c0
  have c2 := k4.c2
  have K4 := Lib.hid k4
  have HZ := Lib.hid hz
  have EH := Lib.hid E
  have hl2 : out.length ≤ 1099511627776 := by omega
  have hl3 : (out ++ [t.n]).length ≤ 1099511627776 := by simp; omega
  clear hA hS hw hcells hnil hc1 hl1 ho hz k4 hk hta hlo E
  unfold tv
  generalize t.args.length = n at *
  go_enter Tryz.func56, Tryz.ntmps56
  go_wp2
  generalize w.alloc (.cells #[.int .i64 t.kind, .string t.name, .int .i64 t.n, .slice a n c] 29) = W0 at *
  go_loopw [5] (fun iv wr => ∃ k : Nat, iv = .int .i64 k ∧ k ≤ out.length ∧ t.n ∉ out.take k ∧ ∃ m, wr = W0.drewN m) (fun iv _ => out.length - (intOf iv).toNat)
  case atStart => exact ⟨0, rfl, Nat.zero_le _, by simp, 0, rfl⟩
  case round =>
    obtain ⟨k, rfl, hkl, hno, m, rfl⟩ := hrel
    have NO := Lib.hid hno
    clear hno
    by_cases hlt : k < out.length
    · obtain ⟨b, off, rfl, hcc⟩ := HCC.out.resolve_left (by intro e; rw [e] at hlt; simp at hlt)
      have hcy := hcc k hlt
      have z0 : (0 : Int) ≤ (k : Int) := by omega
      have z1 : (k : Int) < (out.length : Int) := by omega
      clear hcc
      by_cases hx : out[k] = t.n
      · have f1 : (out[k] == t.n) = true := by rw [hx]; simp
        have EO : Hid (walkF metaStep t out [] = out) := Lib.hid (by rw [EH.out, if_pos (by rw [List.contains_iff_mem, ← hx]; exact List.getElem_mem hlt)])
        clear hx
        go_wp2
        go_quiet (fail)
        go_wp2
        go_ret
        exact ⟨_, rfl, by rw [EO.out]; exact HOW.out.low (drawn_below (drawn_below (Below.refl _ _) _) _), drawn_below (drawn_below HZ.out _) _⟩
      · have f1 : (out[k] == t.n) = false := by rw [beq_eq_false_iff_ne]; exact hx
        have ST := Lib.hid (any_none hlt NO.out hx)
        clear hx
        go_wp2
        go_quiet (fail)
        go_wp2
        go_roundw
        case rel => exact ⟨k + 1, by go_num, by omega, ST.out, _, rfl⟩
        case measure => simp [intOf]; omega
    · obtain rfl : k = out.length := by omega
      have EO : Hid (walkF metaStep t out [] = out ++ [t.n]) := Lib.hid (by rw [EH.out, if_neg (by rw [List.contains_iff_mem]; have := NO.out; rwa [List.take_length] at this)])
      have HZ1 := Lib.hid (drawn_below HZ.out m)
      have K41 := Lib.hid (K4.out.drawn m)
      have HO1 := Lib.hid (HOW.out.low (drawn_below (Below.refl _ _) m))
      have d2 := K41.out.c2
      clear c0 c2 NO HCC
      generalize W0.drewN m = W1 at *
      clear HOW K4 HZ
      go_wp2
      have PA := Lib.hid (push_na 63 63 (W1) HO1.out hl2 t.n)
      have PB := Lib.hid (push_nb 63 63 (W1) HO1.out hl2 t.n)
      have PC := Lib.hid (push_nc 63 63 (W1) HO1.out hl2 t.n)
      go_region_held3 (fun w' => w'.cell? ⟨w.heap.size, 2, none⟩ = some (.int .i64 t.n))
        (first | (with_reducible exact (K41.out.low HX2.out).c2) | (with_reducible exact (K41.out.low HX1.out).c2) | go_keep)
        (first
          | ((with_reducible show (if Region.wanted _ _ = true then Oper.wp _ _ _ ((W1).alloc (.cells #[] 3)).drew _ _ else _)); refine step_append_ok (by rfl) _ _ _ (by rfl) (by rfl) (by rfl) PA.out ?_; rintro v1 w1 ⟨hx1, hA2⟩; have HX1 := Lib.hid hx1; have A2 := Lib.hid hA2; have q1 := (K41.out.low hx1).c2; clear hx1 hA2)
          | ((with_reducible show (if Region.wanted _ _ = true then Oper.wp _ _ _ (((W1).alloc (.cells #[] 3)).alloc (.cells #[.int .i64 t.n] 3)).drew _ _ else _)); refine step_append_ok (by rfl) _ _ _ (by rfl) (by rfl) (by rfl) PB.out ?_; rintro v1 w1 ⟨hx1, hA2⟩; have HX1 := Lib.hid hx1; have A2 := Lib.hid hA2; have q1 := (K41.out.low hx1).c2; clear hx1 hA2)
          | ((with_reducible show (if Region.wanted _ _ = true then Oper.wp _ _ _ (((W1).alloc (.cells #[.int .i64 t.n] 3)).alloc (.cells #[] 3)).drew _ _ else _)); refine step_append_ok (by rfl) _ _ _ (by rfl) (by rfl) (by rfl) PC.out ?_; rintro v1 w1 ⟨hx1, hA2⟩; have HX1 := Lib.hid hx1; have A2 := Lib.hid hA2; have q1 := (K41.out.low hx1).c2; clear hx1 hA2)
          | (refine step_append_ok (by rfl) _ _ _ (by rfl) (by rfl) (by rfl) A2.out ?_; rintro v2 w2 ⟨ho2, hx2⟩; have HO2 := Lib.hid ho2; have HX2 := Lib.hid hx2; clear ho2 hx2))
      all_goals
        go_wp2
        go_ret
        exact ⟨_, rfl, by rw [EO.out]; exact .own HO2.out hl3, HZ1.out.trans (HX2.out.mono HZ1.out.size)⟩

set_option maxRecDepth 100000 in
set_option maxHeartbeats 3200000 in
theorem rmetas_node (t : Ty) (hk : t.kind ≠ 2) (ih : ∀ u ∈ t.args, RMetasSaid u) : RMetasSaid t := by
  intro S a c w vo out hA hS hw ho hlo
  have hz : Below w.heap.size w (w.alloc (.cells #[.int .i64 t.kind, .string t.name, .int .i64 t.n, .slice a t.args.length c] 29)) := (Below.refl w.heap.size w).alloc (Nat.le_refl _) (.cells #[.int .i64 t.kind, .string t.name, .int .i64 t.n, .slice a t.args.length c] 29)
  have k4 := R4.new w (.int .i64 t.kind) (.string t.name) (.int .i64 t.n) (.slice a t.args.length c)
  have hl : t.args.length ≤ 9223372036854775807 := by
    obtain ⟨_, _, _, h⟩ := hA.form
    exact h
  have hst : metaStep out t [] = out := by
    unfold metaStep
    rw [show (t.kind == 2) = false from by rw [beq_eq_false_iff_ne]; exact hk]; rfl
  have E := walkF_eq metaStep t out []
  rw [hst, walkM_ns] at E
  have EQ := Lib.hid E
  have e1 : (t.kind == 2) = false := by rw [beq_eq_false_iff_ne]; exact hk
  have SE : Hid (sizeL t.args + 1 + out.length ≤ 1000000000000) := Lib.hid (by have := t.size_eq; omega)
  have IH := Lib.hid ih
  have AH := Lib.hid hA
  have HN := Lib.hid hS
  have HW := Lib.hid ((wf_iff t).1 hw).2
  have HOW := Lib.hid (ho.low hz)
  have c0 := k4.c0
  have K4 := Lib.hid k4
  have HZ := Lib.hid hz
  clear hA hS hw ho hz k4 ih hk hst hlo E
  unfold tv
  go_enter Tryz.func56, Tryz.ntmps56
  go_wp2
  clear c0
  go_loopw [1, 6] (fun ov iv wr => ∃ i : Nat, iv = .int .i64 i ∧ i ≤ t.args.length ∧ NumsLow wr ov (walkL metaStep (t.args.take i) out []) ∧ Below (w.alloc (.cells #[.int .i64 t.kind, .string t.name, .int .i64 t.n, .slice a t.args.length c] 29)).heap.size (w.alloc (.cells #[.int .i64 t.kind, .string t.name, .int .i64 t.n, .slice a t.args.length c] 29)) wr) (fun _ iv _ => t.args.length - (intOf iv).toNat)
  case atStart => exact ⟨0, rfl, Nat.zero_le _, by simpa [walkL] using HOW.out, Below.refl _ _⟩
  case round =>
    obtain ⟨i, rfl, hil, hO, hB⟩ := hrel
    have z0 : (0 : Int) ≤ (i : Int) := by omega
    have hBw := HZ.out.trans (hB.mono HZ.out.size)
    have k3 := (K4.out.low hB).c3
    have BW := Lib.hid hBw
    have BH := Lib.hid hB
    by_cases hi : i < t.args.length
    · have z1 : (i : Int) < (t.args.length : Int) := by omega
      obtain ⟨b, off, a', cap', rfl, hb, hf, hs⟩ := AH.out.at_ hi
      obtain ⟨f0, f1, f2, f3⟩ := hf.keep (hBw.block b (HN.out b hb))
      have hm := List.getElem_mem hi
      have CH := Lib.hid (IH.out _ hm S a' cap' wr _ _ (hs.keep fun b hS => hBw.block b (HN.out b hS)) (fun b hS => Nat.lt_of_lt_of_le (HN.out b hS) hBw.size) (HW.out _ hm) hO (by have := walkM_len (t.args.take i) out; have h1 := sizeL_take t.args i hi; have h2 := sizeL_take_le t.args (i + 1); have := SE.out; omega))
      have ST := Lib.hid (walkM_take t.args i hi out)
      unfold tv at CH
      clear hf hs hB hBw hm hb hO
      generalize t.args[i] = x at *
      go_wp2_with fail
      refine CH.out.mono ?_
      rintro e w4 ⟨v4, rfl, h4, B4⟩
      have B5 := Lib.hid (BH.out.trans (B4.mono BH.out.size))
      have H4 := Lib.hid h4
      clear B4 h4
      go_wp2
      go_roundw
      case rel => exact ⟨i + 1, by go_num, by omega, by rw [ST.out]; exact H4.out, B5.out⟩
      case measure => simp [intOf]; omega
    · obtain rfl : i = t.args.length := by omega
      have HO5 := Lib.hid hO
      clear hB hBw hO
      go_wp2
      go_ret
      exact ⟨_, rfl, by rw [EQ.out]; have := HO5.out; rwa [List.take_length] at this, BW.out⟩

theorem rmetas_any : ∀ t : Ty, RMetasSaid t := by
  intro t
  induction t using Ty.ind with
  | h t ih =>
    intro S a c w vo out hA hS hw
    by_cases h1 : t.kind = 2
    · have hta : t.args = [] := by rcases ((wf_iff t).1 hw).1 with h | h | h | h | h <;> first | omega | exact h.2 | exact h.2.1
      exact rmetas_meta t h1 hta S a c w vo out hA hS hw
    · exact rmetas_node t h1 ih S a c w vo out hA hS hw

theorem numsLow_nil (w : World) : NumsLow w (.slice none 0 0) [] := ⟨⟨none, 0, rfl, by simp, by simp, .inl rfl⟩, fun c e => by injection e with _ _ e; exact e.symm⟩

set_option maxHeartbeats 800000 in
theorem rMetas_any (t : Ty) (S : Nat → Prop) (a : Option Addr) (c : Nat) (w : World) (hA : ArgsAt S w (.slice a t.args.length c) t.args) (hS : ∀ b, S b → b < w.heap.size) (hw : Wf t) (hs : t.size ≤ 1000000000000) :
    Calls Tryz.prog 29 #[tv t a c] w (MetasPostR w (metasT t)) := by
  have hz : Below w.heap.size w (w.alloc (.cells #[.int .i64 t.kind, .string t.name, .int .i64 t.n, .slice a t.args.length c] 29)) := (Below.refl w.heap.size w).alloc (Nat.le_refl _) (.cells #[.int .i64 t.kind, .string t.name, .int .i64 t.n, .slice a t.args.length c] 29)
  have k4 := R4.new w (.int .i64 t.kind) (.string t.name) (.int .i64 t.n) (.slice a t.args.length c)
  have C := Lib.hid (rmetas_any t S a c (w.alloc (.cells #[.int .i64 t.kind, .string t.name, .int .i64 t.n, .slice a t.args.length c] 29)) (.slice none 0 0) [] (hA.keep fun b hb => hz.block b (hS b hb)) (fun b hb => Nat.lt_of_lt_of_le (hS b hb) hz.size) hw (numsLow_nil _) (by simpa using hs))
  have HZ := Lib.hid hz
  have c0 := k4.c0
  have c1 := k4.c1
  have c2 := k4.c2
  have c3 := k4.c3
  clear hA hS hw hz k4
  unfold tv at C ⊢
  go_enter Tryz.func29, Tryz.ntmps29
  go_wp2_with fail
  refine C.out.mono ?_
  rintro e w1 ⟨v, rfl, h1, hB⟩
  have H1 := Lib.hid h1
  have HB := Lib.hid (HZ.out.trans (hB.mono HZ.out.size))
  clear h1 hB
  go_wp2
  go_ret
  exact ⟨v, rfl, H1.out, HB.out⟩

end Go.Proofs.YtofllmemmggapaaGreatDoor.Tp

/- A type of the document's, held in a block, and what the functions tell of it. -/
namespace Go.Proofs.YtofllmemmggapaaGreatDoor.Tp
open Go.RowKit

/-- block b holds the type t, as the document has it, whose arguments lie below block n -/
structure HoldR (n b : Nat) (t : Ty) (a : Option Addr) (c : Nat) (W : World) : Prop where
  k : R4 W b (.int .i64 t.kind) (.string t.name) (.int .i64 t.n) (.slice a t.args.length c)
  h : ArgsAt (Lt n) W (.slice a t.args.length c) t.args
  lt : b < W.heap.size
  le : n ≤ W.heap.size
theorem HoldR.low {n b : Nat} {t : Ty} {a : Option Addr} {c : Nat} {W W' : World} (R : HoldR n b t a c W) (h : Below W.heap.size W W') : HoldR n b t a c W' :=
  ⟨R.k.low h, R.h.keep fun j hj => h.block j (Nat.lt_of_lt_of_le hj R.le), Nat.lt_of_lt_of_le R.lt h.size, Nat.le_trans R.le h.size⟩
theorem HoldR.of_parse {w W : World} {t : Ty} {a : Option Addr} {c : Nat} (h : ArgsAt (In w.heap.size W.heap.size) W (.slice a t.args.length c) t.args) :
    HoldR W.heap.size W.heap.size t a c (W.alloc (.cells #[.int .i64 t.kind, .string t.name, .int .i64 t.n, .slice a t.args.length c] 29)) :=
  ⟨R4.new W _ _ _ _, (h.mono fun b hb => hb.2).keep fun b hb => heap_alloc_old W _ hb, by simp, by simp⟩
theorem HoldR.of_at {W : World} {t : Ty} {a : Option Addr} {c : Nat} (h : AtW t a c W) :
    HoldR W.heap.size W.heap.size t a c (W.alloc (.cells #[.int .i64 t.kind, .string t.name, .int .i64 t.n, .slice a t.args.length c] 29)) :=
  ⟨R4.new W _ _ _ _, h.keep fun b hb => heap_alloc_old W _ hb, by simp, by simp⟩
theorem HoldR.at_ {n b : Nat} {t : Ty} {a : Option Addr} {c : Nat} {W : World} (R : HoldR n b t a c W) : AtW t a c W := R.h.mono fun _ hj => Nat.lt_of_lt_of_le hj R.le

def OkPostR (w : World) (t : Ty) (e : Ending) (w' : World) : Prop :=
  ∃ a c, e = .returned (.tuple #[.agg #[.int .i64 t.kind, .string t.name, .int .i64 t.n, .slice a t.args.length c], .int .i64 0]) ∧ Below w.heap.size w w' ∧
    HoldR w'.heap.size w'.heap.size t a c (w'.alloc (.cells #[.int .i64 t.kind, .string t.name, .int .i64 t.n, .slice a t.args.length c] 29)) ∧ Below w.heap.size w (w'.alloc (.cells #[.int .i64 t.kind, .string t.name, .int .i64 t.n, .slice a t.args.length c] 29))
def BadPostR (w : World) (er : Nat) (e : Ending) (w' : World) : Prop :=
  e = .returned (.tuple #[.agg #[.int .i64 0, .string ⟨#[]⟩, .int .i64 0, .slice none 0 0], .int .i64 er]) ∧ Below w.heap.size w w' ∧ Below w.heap.size w (w'.alloc (.cells #[.int .i64 0, .string ⟨#[]⟩, .int .i64 0, .slice none 0 0] 29))

theorem rparse_ok (w : World) (s : ByteArray) (hs : s.size ≤ maxLen) {t : Ty} (h : parseT s.data.toList = .ok t) : Calls Tryz.prog 28 #[.string s] w (OkPostR w t) := by
  have C := rparse_any w s hs
  rw [h] at C
  refine C.mono ?_
  rintro e w' ⟨hb, a, c, rfl, hA⟩
  exact ⟨a, c, rfl, hb, .of_parse hA, hb.trans (((Below.refl _ _).alloc (Nat.le_refl _) _).mono hb.size)⟩
theorem rparse_bad (w : World) (s : ByteArray) (hs : s.size ≤ maxLen) {er : Nat} (h : parseT s.data.toList = .error er) : Calls Tryz.prog 28 #[.string s] w (BadPostR w er) := by
  have C := rparse_any w s hs
  rw [h] at C
  refine C.mono ?_
  rintro e w' ⟨hb, rfl⟩
  exact ⟨rfl, hb, hb.trans (((Below.refl _ _).alloc (Nat.le_refl _) _).mono hb.size)⟩
/-- whatever the document's Parse tells -/
def SomePostR (w : World) (e : Ending) (w' : World) : Prop :=
  ∃ (k n : Int) (s : ByteArray) (a : Option Addr) (l c er : Nat), e = .returned (.tuple #[.agg #[.int .i64 k, .string s, .int .i64 n, .slice a l c], .int .i64 er]) ∧ Below w.heap.size w (w'.alloc (.cells #[.int .i64 k, .string s, .int .i64 n, .slice a l c] 29))
theorem rparse_some (w : World) (s : ByteArray) (hs : s.size ≤ maxLen) : Calls Tryz.prog 28 #[.string s] w (SomePostR w) := by
  cases h : parseT s.data.toList with
  | error er =>
    refine (rparse_bad w s hs h).mono ?_
    rintro e w' ⟨rfl, _, hB⟩
    exact ⟨0, 0, _, none, 0, 0, er, rfl, hB⟩
  | ok t =>
    refine (rparse_ok w s hs h).mono ?_
    rintro e w' ⟨a, c, rfl, _, _, hB⟩
    exact ⟨_, _, _, a, _, c, 0, rfl, hB⟩

theorem rprint_h {t : Ty} {a : Option Addr} {c : Nat} {W : World} (R : AtW t a c W) (hs : Small t) :
    Calls Tryz.prog 37 #[.agg #[.int .i64 t.kind, .string t.name, .int .i64 t.n, .slice a t.args.length c]] W (StrPost W (printT t)) :=
  rprint_any t _ a c W R (fun _ h => h) hs.1.1 (by have := printT_len t hs.1; have := hs.2; omega)
theorem rdepth_h {t : Ty} {a : Option Addr} {c : Nat} {W : World} (R : AtW t a c W) (hd : t.depth ≤ 100000) :
    Calls Tryz.prog 55 #[.agg #[.int .i64 t.kind, .string t.name, .int .i64 t.n, .slice a t.args.length c]] W (IntPost W t.depth) :=
  rdepth_any t _ a c W R (fun _ h => h) hd
theorem rpoly_h {t : Ty} {a : Option Addr} {c : Nat} {W : World} (R : AtW t a c W) :
    Calls Tryz.prog 33 #[.agg #[.int .i64 t.kind, .string t.name, .int .i64 t.n, .slice a t.args.length c]] W (BoolPost W (polyT t)) :=
  rpoly_any t _ a c W R (fun _ h => h)
theorem rfree_h {t : Ty} {a : Option Addr} {c : Nat} {W : World} (R : AtW t a c W) (hs : Small t) :
    Calls Tryz.prog 18 #[.agg #[.int .i64 t.kind, .string t.name, .int .i64 t.n, .slice a t.args.length c]] W (FreePostR W (freeT t)) :=
  rFree_any t _ a c W R (fun _ h => h) hs.1.1 (by have := hs.2; omega)
theorem rmetas_h {t : Ty} {a : Option Addr} {c : Nat} {W : World} (R : AtW t a c W) (hs : Small t) :
    Calls Tryz.prog 29 #[.agg #[.int .i64 t.kind, .string t.name, .int .i64 t.n, .slice a t.args.length c]] W (MetasPostR W (metasT t)) :=
  rMetas_any t _ a c W R (fun _ h => h) hs.1.1 (by have := hs.2; omega)

end Go.Proofs.YtofllmemmggapaaGreatDoor.Tp

/- The walk of law 03's read. (Printed by gen_maread.py.) -/
namespace Go.Proofs.YtofllmemmggapaaGreatDoor.Tp
open Go.RowKit Go.Sort

def NilPost (w : World) (e : Ending) (w' : World) : Prop := e = .returned (.slice none 0 0) ∧ Below w.heap.size w w'
set_option maxHeartbeats 800000 in
theorem rmetas_zero (w : World) : Calls Tryz.prog 56 #[.agg #[.int .i64 0, .string ⟨#[]⟩, .int .i64 0, .slice none 0 0], .slice none 0 0] w (NilPost w) := by
  have hz : Below w.heap.size w (w.alloc (.cells #[.int .i64 0, .string ⟨#[]⟩, .int .i64 0, .slice none 0 0] 29)) := (Below.refl w.heap.size w).alloc (Nat.le_refl _) (.cells #[.int .i64 0, .string ⟨#[]⟩, .int .i64 0, .slice none 0 0] 29)
  have k4 := R4.new w (.int .i64 0) (.string ⟨#[]⟩) (.int .i64 0) (.slice none 0 0)
  have HZ := Lib.hid hz
  have c0 := k4.c0
  have c3 := k4.c3
  clear hz k4
  go_enter Tryz.func56, Tryz.ntmps56
  go_wp2
  go_loopw [1, 6] (fun ov iv wr => ov = .slice none 0 0 ∧ iv = .int .i64 0 ∧ wr = w.alloc (.cells #[.int .i64 0, .string ⟨#[]⟩, .int .i64 0, .slice none 0 0] 29)) (fun _ _ _ => 0)
  case atStart => exact ⟨rfl, rfl, rfl⟩
  case round =>
    obtain ⟨rfl, rfl, rfl⟩ := hrel
    go_wp2
    go_ret
    exact ⟨rfl, HZ.out⟩
set_option maxHeartbeats 800000 in
theorem rMetas_zero (w : World) : Calls Tryz.prog 29 #[.agg #[.int .i64 0, .string ⟨#[]⟩, .int .i64 0, .slice none 0 0]] w (NilPost w) := by
  have hz : Below w.heap.size w (w.alloc (.cells #[.int .i64 0, .string ⟨#[]⟩, .int .i64 0, .slice none 0 0] 29)) := (Below.refl w.heap.size w).alloc (Nat.le_refl _) (.cells #[.int .i64 0, .string ⟨#[]⟩, .int .i64 0, .slice none 0 0] 29)
  have k4 := R4.new w (.int .i64 0) (.string ⟨#[]⟩) (.int .i64 0) (.slice none 0 0)
  have C := Lib.hid (rmetas_zero (w.alloc (.cells #[.int .i64 0, .string ⟨#[]⟩, .int .i64 0, .slice none 0 0] 29)))
  have HZ := Lib.hid hz
  have c0 := k4.c0
  have c1 := k4.c1
  have c2 := k4.c2
  have c3 := k4.c3
  clear hz k4
  go_enter Tryz.func29, Tryz.ntmps29
  go_wp2_with fail
  refine C.out.mono ?_
  rintro e w1 ⟨rfl, hB⟩
  have HB := Lib.hid (HZ.out.trans (hB.mono HZ.out.size))
  clear hB
  go_wp2
  go_ret
  exact ⟨rfl, HB.out⟩

/-- both places of the answer are written -/
theorem read_set {w W : World} {b1 b2 : Nat} {u0 u1 u2 u3 v0 v1 v2 v3 : Value} (hb : Below w.heap.size w W) (h1 : w.heap.size ≤ b1) (h2 : w.heap.size ≤ b2) (hne : b1 ≠ b2) (hq : B4 W b1 u0 u1 u2 u3) (hr : R4 W b2 v0 v1 v2 v3) (x0 x1 x2 x3 y0 y1 y2 y3 : Value) :
    let A := ((((W).setCell ⟨b1, 0, none⟩ (x0)).setCell ⟨b1, 1, none⟩ (x1)).setCell ⟨b1, 2, none⟩ (x2)).setCell ⟨b1, 3, none⟩ (x3)
    let B := ((((A).setCell ⟨b2, 0, none⟩ (y0)).setCell ⟨b2, 1, none⟩ (y1)).setCell ⟨b2, 2, none⟩ (y2)).setCell ⟨b2, 3, none⟩ (y3)
    B4 B b1 x0 x1 x2 x3 ∧ R4 B b2 y0 y1 y2 y3 ∧ Below w.heap.size w B ∧ B.heap.size = W.heap.size ∧ ∀ b, b ≠ b1 → b ≠ b2 → B.heap[b]? = W.heap[b]? := by
  intro A B
  have ha : ∀ b, b ≠ b1 → A.heap[b]? = W.heap[b]? := fun b hb => by
    show (((((W).setCell ⟨b1, 0, none⟩ (x0)).setCell ⟨b1, 1, none⟩ (x1)).setCell ⟨b1, 2, none⟩ (x2)).setCell ⟨b1, 3, none⟩ (x3)).heap[b]? = _
    rw [Below.heap_setCell _ _ _ _ hb, Below.heap_setCell _ _ _ _ hb, Below.heap_setCell _ _ _ _ hb, Below.heap_setCell _ _ _ _ hb]
  have hb2 : ∀ b, b ≠ b2 → B.heap[b]? = A.heap[b]? := fun b hb => by
    show (((((A).setCell ⟨b2, 0, none⟩ (y0)).setCell ⟨b2, 1, none⟩ (y1)).setCell ⟨b2, 2, none⟩ (y2)).setCell ⟨b2, 3, none⟩ (y3)).heap[b]? = _
    rw [Below.heap_setCell _ _ _ _ hb, Below.heap_setCell _ _ _ _ hb, Below.heap_setCell _ _ _ _ hb, Below.heap_setCell _ _ _ _ hb]
  have hA : B4 A b1 x0 x1 x2 x3 := B4.set4 hq _ _ _ _
  have hR : R4 A b2 v0 v1 v2 v3 := (ha b2 (Ne.symm hne)).trans hr
  have hsa : A.heap.size = W.heap.size := by
    show (((((W).setCell ⟨b1, 0, none⟩ (x0)).setCell ⟨b1, 1, none⟩ (x1)).setCell ⟨b1, 2, none⟩ (x2)).setCell ⟨b1, 3, none⟩ (x3)).heap.size = _
    simp
  have hsb : B.heap.size = A.heap.size := by
    show (((((A).setCell ⟨b2, 0, none⟩ (y0)).setCell ⟨b2, 1, none⟩ (y1)).setCell ⟨b2, 2, none⟩ (y2)).setCell ⟨b2, 3, none⟩ (y3)).heap.size = _
    simp
  exact ⟨(hb2 b1 hne).trans hA, R4.set4 hR _ _ _ _, (hb.set4 h1 _ _ _ _).set4 h2 _ _ _ _, hsb.trans hsa, fun b h1 h2 => (hb2 b h2).trans (ha b h1)⟩

def ReadOk (w : World) (t : Ty) (b : Bool) (e : Ending) (w' : World) : Prop :=
  ∃ a c a' c', e = .returned (.tuple #[.agg #[.int .i64 t.kind, .string t.name, .int .i64 t.n, .slice a t.args.length c], .agg #[.int .i64 t.kind, .string t.name, .int .i64 t.n, .slice a' t.args.length c'], .bool b]) ∧ Below w.heap.size w w' ∧ AtW t a c w' ∧ AtW t a' c' w'
def ReadNo (w : World) (e : Ending) (w' : World) : Prop := e = .returned (.tuple #[.agg #[.int .i64 0, .string ⟨#[]⟩, .int .i64 0, .slice none 0 0], .agg #[.int .i64 0, .string ⟨#[]⟩, .int .i64 0, .slice none 0 0], .bool false]) ∧ Below w.heap.size w w'

def lowM (t : Ty) : Bool := (metasT t).all fun m => decide (m < 600000)
theorem lowM_no {t : Ty} {k : Nat} (h : k < (metasT t).length) (hk : decide ((600000 : Int) ≤ (metasT t)[k]) = true) : lowM t = false := by
  unfold lowM
  rw [List.all_eq_false]
  refine ⟨_, List.getElem_mem h, ?_⟩
  have := of_decide_eq_true hk
  simp only [decide_eq_true_eq]
  omega
theorem lowM_yes {t : Ty} (h : ∀ j (hj : j < (metasT t).length), decide ((600000 : Int) ≤ (metasT t)[j]) = false) : lowM t = true := by
  unfold lowM
  rw [List.all_eq_true]
  intro x hx
  obtain ⟨j, hj, rfl⟩ := List.getElem_of_mem hx
  have := of_decide_eq_false (h j hj)
  simp only [decide_eq_true_eq]
  omega

set_option maxRecDepth 100000 in
set_option maxHeartbeats 3200000 in
theorem read_bad (w : World) (s : ByteArray) (hs : s.size ≤ maxLen) {er : Nat} (h : parseT s.data.toList = .error er) : Calls Tryz.prog 10 #[.string s] w (ReadNo w) := by
  have hz1 := (Below.refl w.heap.size w).alloc (Nat.le_refl _) (.cells #[.int .i64 0, .string ⟨#[]⟩, .int .i64 0, .slice none 0 0] 26)
  have hz := hz1.alloc hz1.size (.cells #[.int .i64 0, .string ⟨#[]⟩, .int .i64 0, .slice none 0 0] 29)
  have q4 := (B4.new w (.int .i64 0) (.string ⟨#[]⟩) (.int .i64 0) (.slice none 0 0)).low ((Below.refl _ _).alloc (Nat.le_refl _) (.cells #[.int .i64 0, .string ⟨#[]⟩, .int .i64 0, .slice none 0 0] 29))
  have r4 := R4.new (w.alloc (.cells #[.int .i64 0, .string ⟨#[]⟩, .int .i64 0, .slice none 0 0] 26)) (.int .i64 0) (.string ⟨#[]⟩) (.int .i64 0) (.slice none 0 0)
  rw [show (w.alloc (.cells #[.int .i64 0, .string ⟨#[]⟩, .int .i64 0, .slice none 0 0] 26)).heap.size = w.heap.size + 1 from by simp] at r4
  have HZ := Lib.hid hz
  have Q4 := Lib.hid q4
  have RR4 := Lib.hid r4
  have her : ((er : Int) == 0) = false := by have := parse_er h; rw [beq_eq_false_iff_ne]; omega
  have CP := Lib.hid (fun (W : World) => parse_bad W s hs h)
  have CR := Lib.hid (fun (W : World) => rparse_bad W s hs h)
  clear hz1 hz q4 r4 hs h
  go_enter Tryz.func10, Tryz.ntmps10
  go_wp2_with fail
  refine (CP.out _).mono ?_
  rintro e w1 ⟨rfl, hb1, hB1⟩
  have B1 := Lib.hid hB1
  have LE1 : Hid (((w.alloc (.cells #[.int .i64 0, .string ⟨#[]⟩, .int .i64 0, .slice none 0 0] 26)).alloc (.cells #[.int .i64 0, .string ⟨#[]⟩, .int .i64 0, .slice none 0 0] 29)).heap.size ≤ w1.heap.size) := Lib.hid hb1.size
  have k1 := B4.new w1 (.int .i64 0) (.string ⟨#[]⟩) (.int .i64 0) (.slice none 0 0)
  have K1 := Lib.hid k1
  clear hb1 hB1 k1
  go_wp2_with fail
  refine (CR.out _).mono ?_
  rintro e w2 ⟨rfl, hb2, hB2⟩
  have k2 := R4.new w2 (.int .i64 0) (.string ⟨#[]⟩) (.int .i64 0) (.slice none 0 0)
  have K1' := Lib.hid (K1.out.low hB2)
  have B2 := Lib.hid (B1.out.trans (hB2.mono B1.out.size))
  have d0 := k2.c0
  have d1 := k2.c1
  have d2 := k2.c2
  have d3 := k2.c3
  have K2 := Lib.hid k2
  have LE2 : Hid (((w.alloc (.cells #[.int .i64 0, .string ⟨#[]⟩, .int .i64 0, .slice none 0 0] 26)).alloc (.cells #[.int .i64 0, .string ⟨#[]⟩, .int .i64 0, .slice none 0 0] 29)).heap.size ≤ w2.heap.size) := Lib.hid (Nat.le_trans (Nat.le_trans LE1.out (by simp)) hb2.size)
  have CM := Lib.hid (rMetas_zero (w2.alloc (.cells #[.int .i64 0, .string ⟨#[]⟩, .int .i64 0, .slice none 0 0] 29)))
  clear hb2 hB2 k2
  go_wp2_with fail
  refine CM.out.mono ?_
  rintro e w3 ⟨rfl, hb3⟩
  have k1 := K1'.out.low hb3
  have k2 := K2.out.low hb3
  have B3 := Lib.hid (B2.out.trans (hb3.mono B2.out.size))
  have hq := Q4.out.low B3.out
  have hr := RR4.out.low B3.out
  have HQ := Lib.hid hq
  have HR := Lib.hid hr
  have HB := Lib.hid (HZ.out.trans (B3.out.mono HZ.out.size))
  have a0 := k1.c0
  have a1 := k1.c1
  have a2 := k1.c2
  have a3 := k1.c3
  have b0 := k2.c0
  have b1 := k2.c1
  have b2 := k2.c2
  have b3 := k2.c3
  have q0 := hq.c0
  have q1 := hq.c1
  have q2 := hq.c2
  have q3 := hq.c3
  have f0 := hq.fr 0
  have f1 := hq.fr 1
  have f2 := hq.fr 2
  have f3 := hq.fr 3
  have r0 := hr.c0
  have r1 := hr.c1
  have r2 := hr.c2
  have r3 := hr.c3
  have g0 := hr.fr 0
  have g1 := hr.fr 1
  have g2 := hr.fr 2
  have g3 := hr.fr 3
  have NE : Hid (¬ (w.heap.size = w1.heap.size) ∧ ¬ (w.heap.size = w2.heap.size) ∧ ¬ (w.heap.size + 1 = w1.heap.size) ∧ ¬ (w.heap.size + 1 = w2.heap.size)) := Lib.hid (by
    have h0 : ((w.alloc (.cells #[.int .i64 0, .string ⟨#[]⟩, .int .i64 0, .slice none 0 0] 26)).alloc (.cells #[.int .i64 0, .string ⟨#[]⟩, .int .i64 0, .slice none 0 0] 29)).heap.size = w.heap.size + 2 := by simp
    have h1 := LE1.out
    have h2 := LE2.out
    omega)
  have n1 : ¬ (w.heap.size = w2.heap.size) := NE.out.2.1
  have n2 : ¬ (w.heap.size + 1 = w1.heap.size) := NE.out.2.2.1
  have n3 : ¬ (w.heap.size + 1 = w2.heap.size) := NE.out.2.2.2
  have n4 : ¬ (w.heap.size = w1.heap.size) := NE.out.1
  clear hb3 k1 k2 hq hr d0 d1 d2 d3
  obtain ⟨wo, hwo⟩ : ∃ wo : World, wo = w3 := ⟨_, rfl⟩
  subst hwo
  go_wp2
  go_loopw [10] (fun iv wr => iv = .int .i64 0 ∧ wr = wo) (fun _ _ => 0)
  case atStart => exact ⟨rfl, rfl⟩
  case round =>
    obtain ⟨rfl, rfl⟩ := hrel
    go_wp2
    go_region
    all_goals
      go_wp2
      obtain ⟨x5, y5, hB5, hsz5, hoff5⟩ := read_set HB.out (Nat.le_refl _) (Nat.le_succ _) (by omega) HQ.out HR.out (.int .i64 0) (.string ⟨#[]⟩) (.int .i64 0) (.slice none 0 0) (.int .i64 0) (.string ⟨#[]⟩) (.int .i64 0) (.slice none 0 0)
      refine bodyPost_ret (v := .tuple #[.agg #[.int .i64 0, .string ⟨#[]⟩, .int .i64 0, .slice none 0 0], .agg #[.int .i64 0, .string ⟨#[]⟩, .int .i64 0, .slice none 0 0], .bool false]) (by simp [results, Tryz.results10, go_sem, x5.c0, x5.c1, x5.c2, x5.c3, y5.c0, y5.c1, y5.c2, y5.c3]) rfl ?_
      exact ⟨rfl, hB5.drew⟩

set_option maxRecDepth 100000 in
set_option maxHeartbeats 6400000 in
theorem read_ok (w : World) (s : ByteArray) (hs : s.size ≤ maxLen) {t : Ty} (h : parseT s.data.toList = .ok t) : Calls Tryz.prog 10 #[.string s] w (ReadOk w t (lowM t && decide (s.size ≤ 400))) := by
  have hz1 := (Below.refl w.heap.size w).alloc (Nat.le_refl _) (.cells #[.int .i64 0, .string ⟨#[]⟩, .int .i64 0, .slice none 0 0] 26)
  have hz := hz1.alloc hz1.size (.cells #[.int .i64 0, .string ⟨#[]⟩, .int .i64 0, .slice none 0 0] 29)
  have q4 := (B4.new w (.int .i64 0) (.string ⟨#[]⟩) (.int .i64 0) (.slice none 0 0)).low ((Below.refl _ _).alloc (Nat.le_refl _) (.cells #[.int .i64 0, .string ⟨#[]⟩, .int .i64 0, .slice none 0 0] 29))
  have r4 := R4.new (w.alloc (.cells #[.int .i64 0, .string ⟨#[]⟩, .int .i64 0, .slice none 0 0] 26)) (.int .i64 0) (.string ⟨#[]⟩) (.int .i64 0) (.slice none 0 0)
  rw [show (w.alloc (.cells #[.int .i64 0, .string ⟨#[]⟩, .int .i64 0, .slice none 0 0] 26)).heap.size = w.heap.size + 1 from by simp] at r4
  have HZ := Lib.hid hz
  have Q4 := Lib.hid q4
  have RR4 := Lib.hid r4
  have SM := Lib.hid (small_parse h)
  have hsn : s.size ≤ 9223372036854775807 := by unfold maxLen at hs; exact hs
  have CP := Lib.hid (fun (W : World) => parse_any W s hs)
  have CR := Lib.hid (fun (W : World) => rparse_any W s hs)
  rw [h] at CP CR
  clear hz1 hz q4 r4 hs h
  go_enter Tryz.func10, Tryz.ntmps10
  go_wp2_with fail
  refine (CP.out _).mono ?_
  rintro e w1 ⟨hb1, a, c, rfl, hA1⟩
  have hB1 := hb1.trans (((Below.refl _ _).alloc (Nat.le_refl _) (.cells #[.int .i64 t.kind, .string t.name, .int .i64 t.n, .slice a t.args.length c] 26)).mono hb1.size)
  have B1 := Lib.hid hB1
  have A1 := Lib.hid hA1
  have LE1 : Hid (((w.alloc (.cells #[.int .i64 0, .string ⟨#[]⟩, .int .i64 0, .slice none 0 0] 26)).alloc (.cells #[.int .i64 0, .string ⟨#[]⟩, .int .i64 0, .slice none 0 0] 29)).heap.size ≤ w1.heap.size) := Lib.hid hb1.size
  have k1 := B4.new w1 (.int .i64 t.kind) (.string t.name) (.int .i64 t.n) (.slice a t.args.length c)
  have K1 := Lib.hid k1
  clear hb1 hB1 k1 hA1
  unfold tv
  go_wp2_with fail
  refine (CR.out _).mono ?_
  rintro e w2 ⟨hb2, a2, c2, rfl, hA2⟩
  have hB2 := hb2.trans (((Below.refl _ _).alloc (Nat.le_refl _) (.cells #[.int .i64 t.kind, .string t.name, .int .i64 t.n, .slice a2 t.args.length c2] 29)).mono hb2.size)
  have A2 := Lib.hid hA2
  have k2 := R4.new w2 (.int .i64 t.kind) (.string t.name) (.int .i64 t.n) (.slice a2 t.args.length c2)
  have K1' := Lib.hid (K1.out.low hB2)
  have B2 := Lib.hid (B1.out.trans (hB2.mono B1.out.size))
  have d0 := k2.c0
  have d1 := k2.c1
  have d2 := k2.c2
  have d3 := k2.c3
  have K2 := Lib.hid k2
  have LE2 : Hid (((w.alloc (.cells #[.int .i64 0, .string ⟨#[]⟩, .int .i64 0, .slice none 0 0] 26)).alloc (.cells #[.int .i64 0, .string ⟨#[]⟩, .int .i64 0, .slice none 0 0] 29)).heap.size ≤ w2.heap.size ∧ w1.heap.size < w2.heap.size) := Lib.hid (by have := hb2.size; have := LE1.out; simp at *; omega)
  have A1' := Lib.hid ((A1.out.keep (A := w1) (B := w2.alloc (.cells #[.int .i64 t.kind, .string t.name, .int .i64 t.n, .slice a2 t.args.length c2] 29)) fun b hb => (hB2.block b (by have := hb.2; simp; omega)).trans (heap_alloc_old w1 _ hb.2)))
  have A2' := Lib.hid (A2.out.keep (A := w2) (B := w2.alloc (.cells #[.int .i64 t.kind, .string t.name, .int .i64 t.n, .slice a2 t.args.length c2] 29)) fun b hb => heap_alloc_old w2 _ hb.2)
  have CM := Lib.hid (rMetas_any t _ a2 c2 (w2.alloc (.cells #[.int .i64 t.kind, .string t.name, .int .i64 t.n, .slice a2 t.args.length c2] 29)) A2'.out (fun b hb => by have := hb.2; simp; omega) SM.out.1.1 (Nat.le_trans SM.out.2 (by decide)))
  clear hb2 hB2 k2 hA2 A1 A2
  unfold tv at CM ⊢
  go_wp2_with fail
  refine CM.out.mono ?_
  rintro e w3 ⟨mv, rfl, hmv, hb3⟩
  obtain ⟨⟨ma, mc, rfl, hm1, hm2, hmc⟩, _⟩ := hmv
  have k1 := K1'.out.low hb3
  have k2 := K2.out.low hb3
  have B3 := Lib.hid (B2.out.trans (hb3.mono B2.out.size))
  have hq := Q4.out.low B3.out
  have hr := RR4.out.low B3.out
  have HQ := Lib.hid hq
  have HR := Lib.hid hr
  have HB := Lib.hid (HZ.out.trans (B3.out.mono HZ.out.size))
  have HMC := Lib.hid hmc
  have LE3 : Hid (w2.heap.size < w3.heap.size) := Lib.hid (by have := hb3.size; simp at this; omega)
  have A1'' := Lib.hid (A1'.out.keep (A := w2.alloc (.cells #[.int .i64 t.kind, .string t.name, .int .i64 t.n, .slice a2 t.args.length c2] 29)) (B := w3) fun b hb => hb3.block b (by have := hb.2; have := LE2.out.2; simp; omega))
  have A2'' := Lib.hid (A2'.out.keep (A := w2.alloc (.cells #[.int .i64 t.kind, .string t.name, .int .i64 t.n, .slice a2 t.args.length c2] 29)) (B := w3) fun b hb => hb3.block b (by have := hb.2; simp; omega))
  have a0 := k1.c0
  have a1 := k1.c1
  have a2' := k1.c2
  have a3 := k1.c3
  have b0 := k2.c0
  have b1 := k2.c1
  have b2 := k2.c2
  have b3 := k2.c3
  have q0 := hq.c0
  have q1 := hq.c1
  have q2 := hq.c2
  have q3 := hq.c3
  have f0 := hq.fr 0
  have f1 := hq.fr 1
  have f2 := hq.fr 2
  have f3 := hq.fr 3
  have r0 := hr.c0
  have r1 := hr.c1
  have r2 := hr.c2
  have r3 := hr.c3
  have g0 := hr.fr 0
  have g1 := hr.fr 1
  have g2 := hr.fr 2
  have g3 := hr.fr 3
  have NE : Hid (¬ (w.heap.size = w1.heap.size) ∧ ¬ (w.heap.size = w2.heap.size) ∧ ¬ (w.heap.size + 1 = w1.heap.size) ∧ ¬ (w.heap.size + 1 = w2.heap.size)) := Lib.hid (by
    have h0 : ((w.alloc (.cells #[.int .i64 0, .string ⟨#[]⟩, .int .i64 0, .slice none 0 0] 26)).alloc (.cells #[.int .i64 0, .string ⟨#[]⟩, .int .i64 0, .slice none 0 0] 29)).heap.size = w.heap.size + 2 := by simp
    have h1 := LE1.out
    have h2 := LE2.out.1
    omega)
  have n1 : ¬ (w.heap.size = w2.heap.size) := NE.out.2.1
  have n2 : ¬ (w.heap.size + 1 = w1.heap.size) := NE.out.2.2.1
  have n3 : ¬ (w.heap.size + 1 = w2.heap.size) := NE.out.2.2.2
  have n4 : ¬ (w.heap.size = w1.heap.size) := NE.out.1
  clear hb3 k1 k2 hq hr d0 d1 d2 d3 hmc
  obtain ⟨wo, hwo⟩ : ∃ wo : World, wo = w3 := ⟨_, rfl⟩
  subst hwo
  have AF : Hid (∀ W : World, W.heap.size = wo.heap.size → (∀ b, b ≠ w.heap.size → b ≠ w.heap.size + 1 → W.heap[b]? = wo.heap[b]?) → AtW t a c W.drew) := Lib.hid (fun W h1 h2 => (A1''.out.keep (A := wo) (B := W.drew) fun b hb => h2 b (by have := hb.1; simp at this; omega) (by have := hb.1; simp at this; omega)).mono fun b hb => by
    show b < W.heap.size
    rw [h1]; have := hb.2; have := LE2.out.2; have := LE3.out; omega)
  have AG : Hid (∀ W : World, W.heap.size = wo.heap.size → (∀ b, b ≠ w.heap.size → b ≠ w.heap.size + 1 → W.heap[b]? = wo.heap[b]?) → AtW t a2 c2 W.drew) := Lib.hid (fun W h1 h2 => (A2''.out.keep (A := wo) (B := W.drew) fun b hb => h2 b (by have := hb.1; have := LE1.out; simp at *; omega) (by have := hb.1; have := LE1.out; simp at *; omega)).mono fun b hb => by
    show b < W.heap.size
    rw [h1]; have := hb.2; have := LE3.out; omega)
  have ML : Hid ((metasT t).length ≤ 1099511627776) := Lib.hid (by omega)
  clear A1' A1'' A2' A2'' LE1 LE2 LE3 NE
  generalize hms : metasT t = ms at *
  have hml := ML.out
  go_wp2
  go_loopw [10] (fun iv wr => ∃ k : Nat, iv = .int .i64 k ∧ k ≤ ms.length ∧ (∀ j (hj : j < ms.length), j < k → decide ((600000 : Int) ≤ ms[j]) = false) ∧ wr = wo) (fun iv _ => ms.length - (intOf iv).toNat)
  case atStart => exact ⟨0, rfl, Nat.zero_le _, fun j _ hj => by omega, rfl⟩
  case round =>
    obtain ⟨k, rfl, hk, hno, rfl⟩ := hrel
    have NO := Lib.hid hno
    clear hno
    by_cases hi : k < ms.length
    · have z0 : (0 : Int) ≤ (k : Int) := by omega
      have z1 : (k : Int) < (ms.length : Int) := by omega
      obtain ⟨b, off, rfl, _, hcc⟩ := HMC.out.resolve_left (by intro e; rw [e] at hi; simp at hi)
      have hcell := hcc k hi
      clear hcc
      cases hge : decide ((600000 : Int) ≤ ms[k]) with
      | true =>
        have LO : Hid (lowM t = false) := Lib.hid (by subst hms; exact lowM_no hi hge)
        clear hms
        go_wp2
        go_region
        all_goals
          go_wp2
          obtain ⟨x5, y5, hB5, hsz5, hoff5⟩ := read_set HB.out (Nat.le_refl _) (Nat.le_succ _) (by omega) HQ.out HR.out (.int .i64 t.kind) (.string t.name) (.int .i64 t.n) (.slice a t.args.length c) (.int .i64 t.kind) (.string t.name) (.int .i64 t.n) (.slice a2 t.args.length c2)
          refine bodyPost_ret (v := .tuple #[.agg #[.int .i64 t.kind, .string t.name, .int .i64 t.n, .slice a t.args.length c], .agg #[.int .i64 t.kind, .string t.name, .int .i64 t.n, .slice a2 t.args.length c2], .bool false]) (by simp [results, Tryz.results10, go_sem, x5.c0, x5.c1, x5.c2, x5.c3, y5.c0, y5.c1, y5.c2, y5.c3]) rfl ?_
          exact (by rw [LO.out, Bool.false_and]; exact ⟨a, c, a2, c2, rfl, hB5.drew, AF.out _ hsz5 hoff5, AG.out _ hsz5 hoff5⟩)
      | false =>
        have NO2 := Lib.hid (show ∀ j (hj : j < ms.length), j < k + 1 → decide ((600000 : Int) ≤ ms[j]) = false from fun j hj hjk => by
          rcases Nat.lt_or_ge j k with h | h
          · exact NO.out j hj h
          · obtain rfl : j = k := by omega
            exact hge)
        go_wp2
        go_roundw
        case rel => exact ⟨k + 1, by go_num, by omega, NO2.out, by trivial⟩
        case measure => simp [intOf]; omega
    · obtain rfl : k = ms.length := by omega
      have LO : Hid (lowM t = true) := Lib.hid (by subst hms; exact lowM_yes fun j hj => NO.out j hj hj)
      clear hms
      cases hle : decide ((s.size : Int) ≤ 400) with
      | true =>
        have SE : Hid (decide (s.size ≤ 400) = true) := Lib.hid (by have := of_decide_eq_true hle; exact decide_eq_true (by omega))
        go_wp2
        go_region
        all_goals
          go_wp2
          obtain ⟨x5, y5, hB5, hsz5, hoff5⟩ := read_set HB.out (Nat.le_refl _) (Nat.le_succ _) (by omega) HQ.out HR.out (.int .i64 t.kind) (.string t.name) (.int .i64 t.n) (.slice a t.args.length c) (.int .i64 t.kind) (.string t.name) (.int .i64 t.n) (.slice a2 t.args.length c2)
          refine bodyPost_ret (v := .tuple #[.agg #[.int .i64 t.kind, .string t.name, .int .i64 t.n, .slice a t.args.length c], .agg #[.int .i64 t.kind, .string t.name, .int .i64 t.n, .slice a2 t.args.length c2], .bool true]) (by simp [results, Tryz.results10, go_sem, x5.c0, x5.c1, x5.c2, x5.c3, y5.c0, y5.c1, y5.c2, y5.c3]) rfl ?_
          exact (by rw [LO.out, SE.out, Bool.true_and]; exact ⟨a, c, a2, c2, rfl, hB5.drew, AF.out _ hsz5 hoff5, AG.out _ hsz5 hoff5⟩)
      | false =>
        have SE : Hid (decide (s.size ≤ 400) = false) := Lib.hid (by have := of_decide_eq_false hle; exact decide_eq_false (by omega))
        go_wp2
        go_region
        all_goals
          go_wp2
          obtain ⟨x5, y5, hB5, hsz5, hoff5⟩ := read_set HB.out (Nat.le_refl _) (Nat.le_succ _) (by omega) HQ.out HR.out (.int .i64 t.kind) (.string t.name) (.int .i64 t.n) (.slice a t.args.length c) (.int .i64 t.kind) (.string t.name) (.int .i64 t.n) (.slice a2 t.args.length c2)
          refine bodyPost_ret (v := .tuple #[.agg #[.int .i64 t.kind, .string t.name, .int .i64 t.n, .slice a t.args.length c], .agg #[.int .i64 t.kind, .string t.name, .int .i64 t.n, .slice a2 t.args.length c2], .bool false]) (by simp [results, Tryz.results10, go_sem, x5.c0, x5.c1, x5.c2, x5.c3, y5.c0, y5.c1, y5.c2, y5.c3]) rfl ?_
          exact (by rw [LO.out, SE.out, Bool.true_and]; exact ⟨a, c, a2, c2, rfl, hB5.drew, AF.out _ hsz5 hoff5, AG.out _ hsz5 hoff5⟩)

end Go.Proofs.YtofllmemmggapaaGreatDoor.Tp
