/-
  Proved: whatever bytes acts and number id are handed in, the law WatchRuns of the watch layer answers true: of ticks and words by numbers just those are suspected of whom no word came for so many ticks.
  Conditions: none of its own.
-/
import Derived.Test.YtbjpopooijhpdaaWXx3
import Derived.Test.YtbjpopooijhpdaaWatchL
namespace Go.Proofs.Ytbjpopooijhpdaa.Pure
open Go.RowKit Go.Proofs.Ytbjpopooijhpdaa.WX Go.Proofs.YtbjpopooijhpdaaW.PrintWords Go.Proofs.YtbjpopooijhpdaaW.PrintLast Go.Proofs.YtbjpopooijhpdaaW.PrintMore
open Go.Proofs.Ytbjpopooijhpdaa.WatchL

/-- The counts of five nodes behind at most n acts; me never counts. -/
def Five (me : Int) (n : Int) (h : List Int) : Prop := h.length = 5 ∧ (∀ x ∈ h, 0 ≤ x ∧ x ≤ n) ∧ rd h me = 0
abbrev E5 : List (List Int) := List.replicate 5 []
theorem small5 {me n : Int} {h : List Int} (hf : Five me n h) : Small h E5 := ⟨by have := hf.1; omega, by decide, fun x hx => by rw [List.eq_of_mem_replicate hx]; decide⟩
theorem five_cases (me : Int) (h0 : 0 ≤ me) (h5 : me < 5) : me = 0 ∨ me = 1 ∨ me = 2 ∨ me = 3 ∨ me = 4 := by omega
theorem list5 {h : List Int} (hl : h.length = 5) : ∃ a b c d e, h = [a, b, c, d, e] := by
  match h, hl with
  | [a, b, c, d, e], _ => exact ⟨a, b, c, d, e, rfl⟩

/-- The counts are raised, one by one. -/
theorem l1_five (m : Nat) (x0 : List Int) (x6 : Int) (a b c d e : Int) (x8 : Int) (s1 : List Int) (s2 : List (List Int)) (ha : 0 ≤ a ∧ a ≤ 1000) (hb : 0 ≤ b ∧ b ≤ 1000) (hc : 0 ≤ c ∧ c ≤ 1000) (hd : 0 ≤ d ∧ d ≤ 1000) (he : 0 ≤ e ∧ e ≤ 1000) :
    caravanlaw17_WatchRuns.l1 (m + 6) x0 x6 [a, b, c, d, e] x8 0 s1 s2 = caravanlaw17_WatchRuns.j3 m x0 x6 [a + 1, b + 1, c + 1, d + 1, e + 1] x8 s1 s2 := by
  have w : ∀ x : Int, 0 ≤ x ∧ x ≤ 1000 → wrap64 (x + 1) = x + 1 := fun x hx => wrap64_small _ (by omega) (by omega)
  have e1 : wrap64 1 = 1 := by decide +kernel
  have e2 : wrap64 2 = 2 := by decide +kernel
  have e3 : wrap64 3 = 3 := by decide +kernel
  have e4 : wrap64 4 = 4 := by decide +kernel
  have e5 : wrap64 5 = 5 := by decide +kernel
  simp [caravanlaw17_WatchRuns.l1, rd, e1, e2, e3, e4, e5, w _ ha, w _ hb, w _ hc, w _ hd, w _ he]

/-- Who is silent by the counts, and the comparison. -/
theorem l2_five (m : Nat) (x0 : List Int) (x6 : Int) (h : List Int) (hl : h.length = 5) (x8 : Int) (s1 : List Int) (s2 : List (List Int)) (n : Nat) : ∀ (i : Nat) (acc : List Int), i + n = 5 → acc.length ≤ i →
    caravanlaw17_WatchRuns.l2 (m + n + 1) x0 x6 h x8 acc (i : Int) s1 s2 = ((watch_Suspects.f m s1 s2).bind fun t => ((caravanref1_Ints.f m t (acc ++ suspFrom (h.drop i) i)).bind fun u => (if u = true then (caravanlaw17_WatchRuns.l0 m x0 x6 h (wrap64 (x8 + 1)) s1 s2) else (some false)))) := by
  induction n with
  | zero =>
    intro i acc hi ha
    show caravanlaw17_WatchRuns.l2 (m + 1) x0 x6 h x8 acc (i : Int) s1 s2 = _
    simp only [caravanlaw17_WatchRuns.l2]
    rw [if_neg (by omega), List.drop_eq_nil_of_le (by omega)]
    simp [suspFrom]
  | succ n ih =>
    intro i acc hi ha
    have h1 : i < h.length := by omega
    show caravanlaw17_WatchRuns.l2 (m + n + 1 + 1) x0 x6 h x8 acc (i : Int) s1 s2 = _
    generalize hk : m + n + 1 = q at ih ⊢
    simp only [caravanlaw17_WatchRuns.l2]
    rw [if_pos (by omega), if_pos (by omega), if_pos (by omega), rd_at h i h1, List.drop_eq_getElem_cons h1, wrap64_small ((i : Int) + 1) (by omega) (by omega), show ((i : Int) + 1) = ((i + 1 : Nat) : Int) from by omega]
    unfold suspFrom
    by_cases e : h[i] ≥ 6
    · rw [if_pos e, if_pos e, if_pos (by omega), ih (i + 1) (acc ++ [(i : Int)]) (by omega) (by simp; omega)]
      simp
    · rw [if_neg e, if_neg e, ih (i + 1) acc (by omega) (by omega)]

/-- Behind an act: the comparison is met, and the next act is gone on with. -/
theorem j3_next (m : Nat) (hm : 6 ≤ m) (x0 : List Int) (me : Int) (x7 h : List Int) (i : Nat) (hi : i < x0.length) (hx : x0.length ≤ 100) (h0 : 0 ≤ me) (h5 : me < 5) (hl : x7.length = 5) (he : x7.set me.toNat 0 = h) :
    caravanlaw17_WatchRuns.j3 (m + 7) x0 me x7 (i : Int) h E5 = caravanlaw17_WatchRuns.l0 m x0 me h ((i + 1 : Nat) : Int) h E5 := by
  have hlh : h.length = 5 := by rw [← he, List.length_set, hl]
  show caravanlaw17_WatchRuns.j3 (m + 6 + 1) x0 me x7 (i : Int) h E5 = _
  simp only [caravanlaw17_WatchRuns.j3]
  rw [if_pos h0, if_pos (by omega), he]
  have := l2_five m x0 me h hlh (i : Int) h E5 5 0 [] (by omega) (by simp)
  rw [show ((0 : Nat) : Int) = 0 from rfl] at this
  rw [show m + 6 = m + 5 + 1 from rfl, this, susp_f h E5 (by omega) m (by omega)]
  simp only [Option.bind_some, List.nil_append, List.drop_zero]
  rw [ints_f _ _ (by have := susp_len h 0; omega) m (by have := susp_len h 0; omega)]
  simp only [Option.bind_some, decide_true, if_true]
  rw [wrap64_small ((i : Int) + 1) (by omega) (by omega)]
  rfl

theorem rd_set_ne (l : List Int) (a b : Int) (v : Int) (ha : 0 ≤ a) (hb : 0 ≤ b) (hne : a ≠ b) : rd (l.set a.toNat v) b = rd l b := by
  unfold rd
  rw [List.getD_eq_getElem?_getD, List.getD_eq_getElem?_getD, List.getElem?_set_ne (by omega)]
theorem set_same (l : List Int) (a : Int) (h0 : 0 ≤ a) (h1 : a < l.length) (v : Int) (h : rd l a = v) : l.set a.toNat v = l := by
  have : l[a.toNat]'(by omega) = v := by
    rw [← h]
    unfold rd
    rw [List.getD_eq_getElem?_getD, List.getElem?_eq_getElem (by omega)]
    rfl
  rw [← this]
  exact List.set_getElem_self _

theorem mn_small (x : Int) (h0 : 0 ≤ x) (h1 : x ≤ 100) : mn (wrap64 (x + 1)) 1000 = x + 1 := by
  rw [wrap64_small _ (by omega) (by omega)]
  unfold mn
  split <;> omega

theorem tick_five (me n : Int) (h : List Int) (hf : Five me n h) (hn : n ≤ 100) (h0 : 0 ≤ me) (h5 : me < 5) :
    ∃ h' : List Int, tickFrom me h 0 = h' ∧ Five me (n + 1) h' ∧ ∀ (m : Nat) (x0 : List Int) (x8 : Int), caravanlaw17_WatchRuns.l1 (m + 6) x0 me h x8 0 h' E5 = caravanlaw17_WatchRuns.j3 m x0 me (h.map (· + 1)) x8 h' E5 ∧ (h.map (· + 1)).set me.toNat 0 = h' := by
  obtain ⟨hl, hb, hz⟩ := hf
  obtain ⟨a, b, c, d, e, rfl⟩ := list5 hl
  have ba := hb a (by simp)
  have bb := hb b (by simp)
  have bc := hb c (by simp)
  have bd := hb d (by simp)
  have be := hb e (by simp)
  have key : ∀ h' : List Int, tickFrom me [a, b, c, d, e] 0 = h' → Five me (n + 1) h' → ([a, b, c, d, e].map (· + 1)).set me.toNat 0 = h' → ∃ h' : List Int, tickFrom me [a, b, c, d, e] 0 = h' ∧ Five me (n + 1) h' ∧ ∀ (m : Nat) (x0 : List Int) (x8 : Int), caravanlaw17_WatchRuns.l1 (m + 6) x0 me [a, b, c, d, e] x8 0 h' E5 = caravanlaw17_WatchRuns.j3 m x0 me ([a, b, c, d, e].map (· + 1)) x8 h' E5 ∧ ([a, b, c, d, e].map (· + 1)).set me.toNat 0 = h' :=
    fun h' h1 h2 h3 => ⟨h', h1, h2, fun m x0 x8 => ⟨l1_five m x0 me a b c d e x8 h' E5 (by omega) (by omega) (by omega) (by omega) (by omega), h3⟩⟩
  have wa := mn_small a ba.1 (by omega)
  have wb := mn_small b bb.1 (by omega)
  have wc := mn_small c bc.1 (by omega)
  have wd := mn_small d bd.1 (by omega)
  have we := mn_small e be.1 (by omega)
  rcases five_cases me h0 h5 with rfl | rfl | rfl | rfl | rfl
  · have z : a = 0 := hz
    subst z
    refine key [0, b + 1, c + 1, d + 1, e + 1] (by simp [tickFrom, wb, wc, wd, we]) ⟨rfl, ?_, rfl⟩ rfl
    intro x hx
    simp at hx
    omega
  · have z : b = 0 := hz
    subst z
    refine key [a + 1, 0, c + 1, d + 1, e + 1] (by simp [tickFrom, wa, wc, wd, we]) ⟨rfl, ?_, rfl⟩ rfl
    intro x hx
    simp at hx
    omega
  · have z : c = 0 := hz
    subst z
    refine key [a + 1, b + 1, 0, d + 1, e + 1] (by simp [tickFrom, wa, wb, wd, we]) ⟨rfl, ?_, rfl⟩ rfl
    intro x hx
    simp at hx
    omega
  · have z : d = 0 := hz
    subst z
    refine key [a + 1, b + 1, c + 1, 0, e + 1] (by simp [tickFrom, wa, wb, wc, we]) ⟨rfl, ?_, rfl⟩ rfl
    intro x hx
    simp at hx
    omega
  · have z : e = 0 := hz
    subst z
    refine key [a + 1, b + 1, c + 1, d + 1, 0] (by simp [tickFrom, wa, wb, wc, wd]) ⟨rfl, ?_, rfl⟩ rfl
    intro x hx
    simp at hx
    omega

theorem heard_five (me n kk : Int) (h : List Int) (hf : Five me n h) (h0 : 0 ≤ me) (h5 : me < 5) (k0 : 0 ≤ kk) (k5 : kk < 5) (hne : kk ≠ me) :
    watch_Heard.f h E5 kk [] = some (h.set kk.toNat 0, E5) ∧ Five me (n + 1) (h.set kk.toNat 0) ∧ (h.set kk.toNat 0).set me.toNat 0 = h.set kk.toNat 0 := by
  have hl := hf.1
  have hr : rd (h.set kk.toNat 0) me = 0 := by rw [rd_set_ne _ _ _ _ k0 h0 hne]; exact hf.2.2
  refine ⟨?_, ⟨by rw [List.length_set]; exact hl, fun x hx => ?_, hr⟩, set_same _ _ h0 (by rw [List.length_set]; omega) _ hr⟩
  · unfold watch_Heard.f
    rw [own_f (small5 hf)]
    simp only [Option.bind_some]
    have he : E5.set kk.toNat [] = E5 := by
      rcases five_cases kk k0 k5 with rfl | rfl | rfl | rfl | rfl <;> rfl
    rw [if_neg (by omega), if_neg (by omega), if_pos (by show kk < 5; omega), if_pos (by decide), he]
  · have hn : 0 ≤ n := by
      obtain ⟨a, b, c, d, e, rfl⟩ := list5 hl
      have := hf.2.1 a (by simp)
      omega
    rcases List.mem_or_eq_of_mem_set hx with hx | rfl
    · have := hf.2.1 x hx; omega
    · omega

theorem runs_loop (x0 : List Int) (hb : ∀ x ∈ x0, 0 ≤ x ∧ x < 256) (hx : x0.length ≤ 100) (me : Int) (h0 : 0 ≤ me) (h5 : me < 5) (d : Nat) : ∀ (i : Nat) (h : List Int), i + d = x0.length → Five me i h → caravanlaw17_WatchRuns.l0 (50 + 20 * d) x0 me h (i : Int) h E5 = some true := by
  induction d with
  | zero =>
    intro i h hi hf
    show caravanlaw17_WatchRuns.l0 (49 + 1) x0 me h (i : Int) h E5 = some true
    generalize hq : 49 = q
    simp only [caravanlaw17_WatchRuns.l0]
    rw [if_neg (by omega), awake_f q (by omega)]
    rfl
  | succ d ih =>
    intro i h hi hf
    have hil : i < x0.length := by omega
    have hbx := hb x0[i] (List.getElem_mem hil)
    obtain ⟨p, hp⟩ : ∃ p, p = 50 + 20 * d := ⟨_, rfl⟩
    have hstep : ∀ m, p ≤ m → ∀ h' : List Int, Five me ((i + 1 : Nat) : Int) h' → caravanlaw17_WatchRuns.l0 m x0 me h' ((i + 1 : Nat) : Int) h' E5 = some true := by
      intro m hm h' hf'
      exact at_rounds (g := fun k => caravanlaw17_WatchRuns.l0 k x0 me h' ((i + 1 : Nat) : Int) h' E5) (fun k => (caravanlaw17_WatchRuns.mono_l k).1 _ _ _ _ _ _) hm (by rw [hp]; exact ih (i + 1) h' (by omega) hf')
    have htm : Int.tmod (wrap64 (x0[i])) 8 = x0[i] % 8 := by
      rw [wrap64_small _ (by omega) (by omega), Int.tmod_eq_emod_of_nonneg hbx.1]
    obtain ⟨kk, hkk⟩ : ∃ kk, kk = x0[i] % 8 := ⟨_, rfl⟩
    have k0 : 0 ≤ kk := by omega
    have hj : ∀ b : Bool, (b = true → kk < 5 ∧ kk ≠ me) → caravanlaw17_WatchRuns.j1 (p + 19) x0 me h (i : Int) kk b h E5 = some true := by
      intro b hbb
      show caravanlaw17_WatchRuns.j1 (p + 18 + 1) x0 me h (i : Int) kk b h E5 = some true
      generalize hq : p + 18 = q
      simp only [caravanlaw17_WatchRuns.j1]
      cases b with
      | true =>
        obtain ⟨k5, hne⟩ := hbb rfl
        obtain ⟨g1, g2, g3⟩ := heard_five me i kk h hf h0 h5 k0 k5 hne
        rw [if_pos rfl, g1]
        simp only [Option.bind_some]
        rw [if_pos k0, if_pos (by have := hf.1; omega), ← hq, show p + 18 = (p + 11) + 7 from rfl,
          j3_next (p + 11) (by omega) x0 me (h.set kk.toNat 0) (h.set kk.toNat 0) i hil hx h0 h5 (by rw [List.length_set]; exact hf.1) g3]
        exact hstep _ (by omega) _ (by rw [show ((i + 1 : Nat) : Int) = (i : Int) + 1 from by omega]; exact g2)
      | false =>
        obtain ⟨h', g1, g2, g3⟩ := tick_five me i h hf (by omega) h0 h5
        rw [if_neg (by decide), tick_f me (small5 hf) q (by have := hf.1; omega), g1]
        simp only [Option.bind_some]
        rw [← hq, show p + 18 = (p + 12) + 6 from rfl, (g3 (p + 12) x0 i).1, show p + 12 = (p + 5) + 7 from rfl,
          j3_next (p + 5) (by omega) x0 me (h.map (· + 1)) h' i hil hx h0 h5 (by rw [List.length_map]; exact hf.1) (g3 0 x0 0).2]
        exact hstep _ (by omega) _ (by rw [show ((i + 1 : Nat) : Int) = (i : Int) + 1 from by omega]; exact g2)
    rw [show 50 + 20 * (d + 1) = (p + 19) + 1 from by omega]
    generalize hq : p + 19 = q at hj ⊢
    simp only [caravanlaw17_WatchRuns.l0]
    rw [if_pos (by omega), if_pos (by omega), rd_at x0 i hil, htm, ← hkk]
    by_cases k5 : kk < 5
    · rw [if_pos k5]
      refine hj _ (fun hb' => ⟨k5, ?_⟩)
      intro he
      rw [he] at hb'
      simp at hb'
    · rw [if_neg k5]
      exact hj _ (fun hb' => by cases hb')

theorem WatchRuns : caravanlaw17_WatchRuns.Pure := by
  intro l a1 _ _ hw h1
  have hb : ∀ x ∈ l, 0 ≤ x ∧ x < 256 := by
    intro c hc
    have := hw c hc
    simp [Lit.wf, IntKind.min, IntKind.max, IntKind.signed, IntKind.bits] at this
    omega
  have h1' : 0 ≤ a1 ∧ a1 < 256 := by
    simp [Lit.wf, IntKind.min, IntKind.max, IntKind.signed, IntKind.bits] at h1
    omega
  refine ⟨50 + 20 * l.length, ?_⟩
  unfold caravanlaw17_WatchRuns.f
  by_cases c1 : (l.length : Int) > 100
  · rw [if_pos c1, awake_f _ (by omega)]
    rfl
  rw [if_neg c1]
  have hn : watch_New.f 5 = some ([0, 0, 0, 0, 0], E5) := by decide +kernel
  rw [hn]
  simp only [Option.bind_some]
  rw [if_pos (by decide), wrap64_small a1 (by omega) (by omega), Int.tmod_eq_emod_of_nonneg h1'.1]
  have := runs_loop l hb (by omega) (a1 % 5) (by omega) (by omega) l.length 0 [0, 0, 0, 0, 0] (by omega) ⟨rfl, fun x hx => by simp at hx; omega, by
    rcases five_cases (a1 % 5) (by omega) (by omega) with e | e | e | e | e <;> rw [e] <;> rfl⟩
  exact this
end Go.Proofs.Ytbjpopooijhpdaa.Pure
