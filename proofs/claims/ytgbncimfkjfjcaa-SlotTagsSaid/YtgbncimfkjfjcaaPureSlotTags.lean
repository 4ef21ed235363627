/-
  The plain law behind the law SlotTags: what its Lean function computes is true. Conditions: none of its own.
-/
import Derived.Test.YtgbncimfkjfjcaaOneL
import Derived.Test.YtgbncimfkjfjcaaSXx3
namespace Go.Proofs.Ytgbncimfkjfjcaa.Pure
open Go.RowKit Go.Proofs.Ytgbncimfkjfjcaa.SX Go.Proofs.YtgbncimfkjfjcaaW.PrintWords Go.Proofs.YtgbncimfkjfjcaaW.PrintLast Go.Proofs.YtgbncimfkjfjcaaW.PrintMore
theorem tags_if {α : Type} {c : Prop} [Decidable c] {g h : Nat → Option α} {r : α} (hc : c) (e : Ev g r) : Ev (fun k => if c then g k else h k) r := Ev.congr (fun _ => if_pos hc) e
theorem tags_some {α β : Type} {x : α} {y : Option α} {f : Nat → α → Option β} {r : β} (hy : y = some x) (e : Ev (fun k => f k x) r) : Ev (fun k => y.bind (f k)) r := by subst hy; exact e
/-- Two keys of one slot. -/
theorem one_two {s t : ByteArray} {n : Int} (h1 : Ev (fun k => slot_Of.f k s) n) (h2 : Ev (fun k => slot_Of.f k t) n) (hs : s.size < 10000000) (ht : t.size < 10000000) : Ev (fun k => slot_One.f k [s, t]) (n, true) := by
  obtain ⟨b, hb, hi⟩ := one_ev s [t] n (show 1 < 1000000 by decide) h1 (fun x hx => by
    rcases List.mem_cons.mp hx with rfl | hx
    · exact hs
    · rcases List.mem_singleton.mp hx with rfl
      exact ht)
  have hf : b = false := by
    cases b with
    | false => rfl
    | true =>
      obtain ⟨x, hx, m, h3, h4⟩ := hi.mp rfl
      rcases List.mem_cons.mp hx with rfl | hx
      · exact absurd (ev_one h3 h1) h4
      · rcases List.mem_singleton.mp hx with rfl
        exact absurd (ev_one h3 h2) h4
  subst hf
  exact hb
theorem tags_end (T A B : List UInt8) (hT : T ≠ []) (h1 : (125 : UInt8) ∉ T) (h2 : (123 : UInt8) ∉ A) (lT : T.length ≤ 60) (lA : A.length ≤ 60) (lB : B.length ≤ 60) : Ev (fun k => caravanlaw1_SlotTags.l1 k (mk T) (mk A) (mk B) (A.length : Int)) true := by
  have e1 : ((⟨#[123]⟩ : ByteArray) ++ mk T) ++ (⟨#[125]⟩ : ByteArray) = mk ([] ++ 123 :: (T ++ 125 :: [])) := by
    show (mk [123] ++ mk T) ++ mk [125] = _
    rw [mk_append, mk_append]
    congr 1
  have e2 : (((mk A ++ (⟨#[123]⟩ : ByteArray)) ++ mk T) ++ (⟨#[125]⟩ : ByteArray)) ++ mk B = mk (A ++ 123 :: (T ++ 125 :: B)) := by
    show (((mk A ++ mk [123]) ++ mk T) ++ mk [125]) ++ mk B = _
    rw [mk_append, mk_append, mk_append, mk_append]
    congr 1
    simp
  have e3 : (mk A ++ (⟨#[123, 125]⟩ : ByteArray)) ++ mk B = mk (A ++ 123 :: ([] ++ 125 :: B)) := by
    show (mk A ++ mk [123, 125]) ++ mk B = _
    rw [mk_append, mk_append]
    congr 1
    simp
  have e4 : (mk A ++ (⟨#[123]⟩ : ByteArray)) ++ mk T = mk (A ++ 123 :: T) := by
    show (mk A ++ mk [123]) ++ mk T = _
    rw [mk_append, mk_append]
    congr 1
    simp
  have s1 : (mk ([] ++ 123 :: (T ++ 125 :: []))).size = T.length + 2 := by rw [mk_size]; simp
  have s2 : (mk (A ++ 123 :: (T ++ 125 :: B))).size = A.length + T.length + B.length + 2 := by rw [mk_size]; simp; omega
  have t1 := tag_c [] T [] (by simp) h1 (by simp; omega)
  have t2 := tag_c A T B h2 h1 (by omega)
  have t3 := tag_c A [] B h2 (by simp) (by simp; omega)
  have t4 := tag_b A T h2 h1 (by omega)
  rw [if_neg hT] at t1 t2
  rw [if_pos rfl] at t3
  have hTs : (mk T).size < 1000000000 := by rw [mk_size]; omega
  have o1 := of_ev t1 hTs
  have o2 := of_ev t2 hTs
  have hone := one_two o1 o2 (by omega) (by omega)
  have hA : (mk A).size = A.length := mk_size A
  have hT2 : (mk T).size = T.length := mk_size T
  have hB : (mk B).size = B.length := mk_size B
  have z1 : ((⟨#[123]⟩ : ByteArray) ++ mk T).size = T.length + 1 := by
    show (mk [123] ++ mk T).size = _
    rw [mk_append, mk_size]
    simp
  have z2 : (mk A ++ (⟨#[123]⟩ : ByteArray)).size = A.length + 1 := by
    show (mk A ++ mk [123]).size = _
    rw [mk_append, mk_size]
    simp
  have z3 : ((mk A ++ (⟨#[123]⟩ : ByteArray)) ++ mk T).size = A.length + T.length + 1 := by
    rw [e4, mk_size]
    simp
    omega
  have z4 : (((mk A ++ (⟨#[123]⟩ : ByteArray)) ++ mk T) ++ (⟨#[125]⟩ : ByteArray)).size = A.length + T.length + 2 := by
    rw [e4]
    show (mk (A ++ 123 :: T) ++ mk [125]).size = _
    rw [mk_append, mk_size]
    simp
    omega
  have z5 : (mk A ++ (⟨#[123, 125]⟩ : ByteArray)).size = A.length + 2 := by
    show (mk A ++ mk [123, 125]).size = _
    rw [mk_append, mk_size]
    simp
  have d0 : ¬ ((A.length : Int) < ((mk A).size : Int)) := by omega
  refine Ev.step (fun k => by rw [caravanlaw1_SlotTags.l1, if_neg d0]) ?_
  refine tags_if (by omega) (tags_if (by omega) (tags_if (by omega) (tags_if (by omega) (tags_if (by omega) (tags_if (by omega) ?_)))))
  rw [e2, e1, e3, e4]
  refine Ev.bind hone (tags_if rfl (Ev.bind o1 (tags_if rfl (tags_some t2 (tags_if rfl (tags_if (by omega) (tags_if (by omega) (tags_some t3 (tags_if rfl (tags_some t4 (tags_if rfl (Ev.bind awake_ev (Ev.now true)))))))))))))
theorem byte_int {b : UInt8} : ((b.toNat : Int) = 125 ↔ b = 125) ∧ ((b.toNat : Int) = 123 ↔ b = 123) := by
  refine ⟨⟨fun h => UInt8.toNat.inj ?_, fun h => by rw [h]; rfl⟩, ⟨fun h => UInt8.toNat.inj ?_, fun h => by rw [h]; rfl⟩⟩
  · show b.toNat = 125
    omega
  · show b.toNat = 123
    omega
theorem tags_l1 (T A B : List UInt8) (hT : T ≠ []) (h1 : (125 : UInt8) ∉ T) (lT : T.length ≤ 60) (lA : A.length ≤ 60) (lB : B.length ≤ 60) : ∀ d i, i + d = A.length → (∀ j (hj : j < A.length), j < i → A[j] ≠ 123) → Ev (fun k => caravanlaw1_SlotTags.l1 k (mk T) (mk A) (mk B) (i : Int)) true
  | 0, i, h, hn => by
    obtain rfl : i = A.length := h
    exact tags_end T A B hT h1 (fun hm => by obtain ⟨j, hj, e⟩ := List.mem_iff_getElem.mp hm; exact hn j hj hj e) lT lA lB
  | d + 1, i, h, hn => by
    have hlt : i < A.length := by omega
    have d1 : (i : Int) < ((mk A).size : Int) := by rw [mk_size]; omega
    have d2 : (0 : Int) ≤ (i : Int) := by omega
    have hb := mk_bt A i A[i] (List.getElem?_eq_getElem hlt)
    by_cases hc : A[i] = 123
    · refine Ev.step (fun k => ?_) (Ev.bind awake_ev (Ev.now true))
      rw [caravanlaw1_SlotTags.l1, if_pos d1, if_pos d2, hb, if_pos (byte_int.2.mpr hc)]
    · have ih := tags_l1 T A B hT h1 lT lA lB d (i + 1) (by omega) (fun j hj hji => by
        rcases Nat.lt_or_ge j i with h9 | h9
        · exact hn j hj h9
        · obtain rfl : j = i := by omega
          exact hc)
      refine Ev.step (fun k => ?_) ih
      rw [caravanlaw1_SlotTags.l1, if_pos d1, if_pos d2, hb, if_neg (fun e => hc (byte_int.2.mp e)), w1 (by omega)]
theorem tags_l0 (T A B : List UInt8) (hT : T ≠ []) (lT : T.length ≤ 60) (lA : A.length ≤ 60) (lB : B.length ≤ 60) : ∀ d i, i + d = T.length → (∀ j (hj : j < T.length), j < i → T[j] ≠ 125) → Ev (fun k => caravanlaw1_SlotTags.l0 k (mk T) (mk A) (mk B) (i : Int)) true
  | 0, i, h, hn => by
    obtain rfl : i = T.length := h
    refine Ev.step (fun k => ?_) (tags_l1 T A B hT (fun hm => by obtain ⟨j, hj, e⟩ := List.mem_iff_getElem.mp hm; exact hn j hj hj e) lT lA lB A.length 0 (Nat.zero_add _) (fun j _ hj => by omega))
    rw [caravanlaw1_SlotTags.l0, if_neg (by rw [mk_size]; omega)]
    rfl
  | d + 1, i, h, hn => by
    have hlt : i < T.length := by omega
    have d1 : (i : Int) < ((mk T).size : Int) := by rw [mk_size]; omega
    have d2 : (0 : Int) ≤ (i : Int) := by omega
    have hb := mk_bt T i T[i] (List.getElem?_eq_getElem hlt)
    by_cases hc : T[i] = 125
    · refine Ev.step (fun k => ?_) (Ev.bind awake_ev (Ev.now true))
      rw [caravanlaw1_SlotTags.l0, if_pos d1, if_pos d2, hb, if_pos (byte_int.1.mpr hc)]
    · have ih := tags_l0 T A B hT lT lA lB d (i + 1) (by omega) (fun j hj hji => by
        rcases Nat.lt_or_ge j i with h9 | h9
        · exact hn j hj h9
        · obtain rfl : j = i := by omega
          exact hc)
      refine Ev.step (fun k => ?_) ih
      rw [caravanlaw1_SlotTags.l0, if_pos d1, if_pos d2, hb, if_neg (fun e => hc (byte_int.1.mp e)), w1 (by omega)]
theorem tags_awake (a0 a1 a2 : ByteArray) : Ev (fun k => caravanlaw1_SlotTags.j0 k a0 a1 a2 true) true :=
  Ev.step (fun k => by rw [caravanlaw1_SlotTags.j0, if_pos rfl]) (Ev.bind awake_ev (Ev.now true))
theorem SlotTags : caravanlaw1_SlotTags.Pure := by
  intro a0 a1 a2 _ _ _
  refine Ev.rounds (r := true) ?_
  have hf : ∀ k, caravanlaw1_SlotTags.f k a0 a1 a2 = (if (a0.size : Int) > 60 then (caravanlaw1_SlotTags.j0 k a0 a1 a2 true) else (if (a1.size : Int) > 60 then (caravanlaw1_SlotTags.j0 k a0 a1 a2 true) else (if (a2.size : Int) > 60 then (caravanlaw1_SlotTags.j0 k a0 a1 a2 true) else (caravanlaw1_SlotTags.j0 k a0 a1 a2 (a0.toList == ([] : List UInt8)))))) := fun k => by
    unfold caravanlaw1_SlotTags.f
    rfl
  by_cases c0 : (a0.size : Int) > 60
  · exact Ev.congr (fun k => by rw [hf, if_pos c0]) (tags_awake a0 a1 a2)
  · by_cases c1 : (a1.size : Int) > 60
    · exact Ev.congr (fun k => by rw [hf, if_neg c0, if_pos c1]) (tags_awake a0 a1 a2)
    · by_cases c2 : (a2.size : Int) > 60
      · exact Ev.congr (fun k => by rw [hf, if_neg c0, if_neg c1, if_pos c2]) (tags_awake a0 a1 a2)
      · refine Ev.congr (f := fun k => caravanlaw1_SlotTags.j0 k a0 a1 a2 (a0.toList == ([] : List UInt8))) (fun k => by rw [hf, if_neg c0, if_neg c1, if_neg c2]) ?_
        clear hf
        rw [mk_of a0] at c0 ⊢
        rw [mk_of a1] at c1 ⊢
        rw [mk_of a2] at c2 ⊢
        rw [mk_size] at c0 c1 c2
        rw [mk_toList]
        generalize a0.data.toList = T at c0 ⊢
        generalize a1.data.toList = A at c1 ⊢
        generalize a2.data.toList = B at c2 ⊢
        by_cases hT : T = []
        · subst hT
          exact tags_awake _ _ _
        · have hb : (T == ([] : List UInt8)) = false := by simp [hT]
          rw [hb]
          refine Ev.step (fun k => ?_) (tags_l0 T A B hT (by omega) (by omega) (by omega) T.length 0 (Nat.zero_add _) (fun j _ hj => by omega))
          rw [caravanlaw1_SlotTags.j0, if_neg Bool.false_ne_true]
          rfl
end Go.Proofs.Ytgbncimfkjfjcaa.Pure
