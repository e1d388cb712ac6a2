/- Pairs in order: where a key stands; what a change makes. Plain. -/
import Derived.Test.YtkgbngonbbajkaaS12Z
import Derived.Test.YtkgbngonbbajkaaS12I
import Derived.Test.YtkgbngonbbajkaaQ12A
import Derived.Lib.Bytealg
set_option linter.unusedSimpArgs false
set_option linter.unusedVariables false
namespace Go.Proofs.YtkgbngonbbajkaaE
open Go
set_option linter.unusedSimpArgs false
set_option linter.unusedVariables false

theorem cmpB : ∀ a b : List UInt8, decide (Lib.compareBytes a b < 0) = bl a b ∧ (Lib.compareBytes a b == 0) = (a == b)
  | [], [] => by simp [Lib.compareBytes]; rfl
  | [], b :: y => by simp [Lib.compareBytes]; rfl
  | a :: x, [] => by simp [Lib.compareBytes]; rfl
  | a :: x, b :: y => by
    have ih := cmpB x y
    rw [bl_cons, List.cons_beq_cons]
    unfold Lib.compareBytes
    rcases Nat.lt_trichotomy a.toNat b.toNat with h | h | h
    · have h1 : a < b := UInt8.lt_iff_toNat_lt.2 h
      have h3 : (a == b) = false := by rw [beq_eq_false_iff_ne]; rintro rfl; omega
      simp [h1, h3]
    · have h1 : a = b := UInt8.toNat_inj.1 h
      subst h1
      have h2 : ¬ a < a := fun h' => by have := UInt8.lt_iff_toNat_lt.1 h'; omega
      simp only [h2, if_false, decide_false, beq_self_eq_true, Bool.true_and, Bool.false_or]
      exact ih
    · have h1 : b < a := UInt8.lt_iff_toNat_lt.2 h
      have h2 : ¬ a < b := fun h' => by have := UInt8.lt_iff_toNat_lt.1 h'; omega
      have h3 : (a == b) = false := by rw [beq_eq_false_iff_ne]; rintro rfl; omega
      simp [h1, h2, h3]
theorem cmpI_lt (a b : List UInt8) : decide (cmpI a b < 0) = bl a b := by
  rw [cmpI, Lib.cmp_eq]; exact (cmpB a b).1
theorem cmpI_eq (a b : List UInt8) : (cmpI a b == 0) = (a == b) := by
  rw [cmpI, Lib.cmp_eq]; exact (cmpB a b).2

theorem bsN_spec (f : Nat → Bool) (a : Nat) : ∀ n lo hi, hi - lo ≤ n → lo ≤ a → a ≤ hi → (∀ i, i < a → f i = true) → (∀ i, a ≤ i → f i = false) → bsN f n lo hi = a
  | 0, lo, hi, h, h1, h2, _, _ => by simp only [bsN]; omega
  | n + 1, lo, hi, h, h1, h2, h3, h4 => by
    simp only [bsN]
    split
    · split
      · rename_i hlt hf
        refine bsN_spec f a n _ _ (by omega) ?_ h2 h3 h4
        by_cases hx : a ≤ (lo + hi) / 2
        · rw [h4 _ hx] at hf; cases hf
        · omega
      · rename_i hlt hf
        refine bsN_spec f a n _ _ (by omega) h1 ?_ h3 h4
        by_cases hx : (lo + hi) / 2 < a
        · exact absurd (h3 _ hx) hf
        · omega
    · omega

theorem above_iff : ∀ (w : List UInt8) (l : List Pr), above w l = true ↔ (∀ p ∈ l, okP p = true) ∧ (∀ p ∈ l, bl w p.1 = true) ∧ l.Pairwise fun p q => bl p.1 q.1 = true
  | w, [] => by simp [above]
  | w, p :: l => by
    have ih := above_iff p.1 l
    simp only [above, Bool.and_eq_true, List.mem_cons, List.pairwise_cons, upB_bl]
    rw [ih]
    constructor
    · rintro ⟨⟨h1, h2⟩, h3, h4, h5⟩
      refine ⟨?_, ?_, h4, h5⟩
      · rintro q (rfl | hq)
        · exact h1
        · exact h3 q hq
      · rintro q (rfl | hq)
        · exact h2
        · exact bl_trans _ _ _ h2 (h4 q hq)
    · rintro ⟨h1, h2, h3, h4⟩
      exact ⟨⟨h1 p (.inl rfl), h2 p (.inl rfl)⟩, fun q hq => h1 q (.inr hq), h3, h4⟩

/-- Pairs ahead of a key, of it, and behind it. -/
structure Cut (l : List Pr) (key : List UInt8) (A C B : List Pr) : Prop where
  eq : l = A ++ (C ++ B)
  mid : C = [] ∨ ∃ v, C = [(key, v)]
  lo : ∀ p ∈ A, bl p.1 key = true
  hi : ∀ p ∈ B, bl key p.1 = true
theorem cut_at : ∀ (l : List Pr) (key : List UInt8), (l.Pairwise fun p q => bl p.1 q.1 = true) → ∃ A C B, Cut l key A C B
  | [], key, _ => ⟨[], [], [], rfl, .inl rfl, by simp, by simp⟩
  | p :: l, key, h => by
    rw [List.pairwise_cons] at h
    obtain ⟨A, C, B, hc⟩ := cut_at l key h.2
    cases hb : bl p.1 key with
    | true =>
      refine ⟨p :: A, C, B, by rw [hc.eq]; rfl, hc.mid, ?_, hc.hi⟩
      intro q hq
      rcases List.mem_cons.1 hq with rfl | hq
      · exact hb
      · exact hc.lo q hq
    | false =>
      rcases bl_total _ _ hb with e | e
      · refine ⟨[], [p], l, rfl, .inr ⟨p.2, by rw [e]⟩, by simp, fun q hq => ?_⟩
        have := h.1 q hq
        rw [e]; exact this
      · refine ⟨[], [], p :: l, rfl, .inl rfl, by simp, fun q hq => ?_⟩
        rcases List.mem_cons.1 hq with rfl | hq
        · exact e
        · exact bl_trans _ _ _ e (h.1 q hq)
theorem Cut.ge {l : List Pr} {key : List UInt8} {A C B : List Pr} (h : Cut l key A C B) : ∀ p ∈ C ++ B, bl p.1 key = false := by
  intro p hp
  rcases List.mem_append.1 hp with hp | hp
  · rcases h.mid with e | ⟨v, e⟩
    · rw [e] at hp; cases hp
    · rw [e] at hp
      obtain rfl := List.mem_singleton.1 hp
      exact bl_irrefl _
  · exact bl_asymm _ _ (h.hi p hp)
theorem Cut.place {l : List Pr} {key : List UInt8} {A C B : List Pr} (h : Cut l key A C B) : place l key = A.length := by
  have hl : l.length = A.length + (C ++ B).length := by rw [h.eq, List.length_append]
  refine bsN_spec _ _ _ _ _ (by omega) (by omega) (by omega) (fun i hi => ?_) (fun i hi => ?_)
  · unfold lessAt
    rw [h.eq, List.getElem?_append_left hi, List.getElem?_eq_getElem hi]
    simp only
    rw [cmpI_lt]; exact h.lo _ (List.getElem_mem hi)
  · unfold lessAt
    rw [h.eq, List.getElem?_append_right hi]
    split
    · rename_i p hp
      rw [cmpI_lt]; exact h.ge _ (List.mem_of_getElem? hp)
    · rfl
theorem Cut.has {l : List Pr} {key : List UInt8} {A C B : List Pr} (h : Cut l key A C B) : hasAt l key A.length = !C.isEmpty := by
  unfold hasAt
  rw [h.eq, List.getElem?_append_right (Nat.le_refl _), Nat.sub_self]
  rcases h.mid with rfl | ⟨v, rfl⟩
  · cases B with
    | nil => rfl
    | cons b B =>
      simp only [List.nil_append, List.getElem?_cons_zero, List.isEmpty_nil, Bool.not_true]
      rw [cmpI_eq, beq_eq_false_iff_ne]
      intro e
      have := h.hi b (by simp)
      rw [e, bl_irrefl] at this; cases this
  · simp only [List.cons_append, List.getElem?_cons_zero, List.isEmpty_cons, Bool.not_false]
    rw [cmpI_eq]; simp
/-- What a change makes. -/
theorem Cut.apply {l : List Pr} {key : List UInt8} {A C B : List Pr} (h : Cut l key A C B) (val : List UInt8) (put : Bool) :
    applyL l key val put = if put then (if C = [] ∧ l.length = 2000 then none else some (A ++ (key, val) :: B)) else some (A ++ B) := by
  unfold applyL
  rw [h.place, h.has]
  have hl := h.eq
  rcases h.mid with rfl | ⟨v, rfl⟩
  · simp only [List.isEmpty_nil, Bool.not_true, Bool.false_eq_true, if_false, true_and]
    rw [List.nil_append] at hl
    cases put with
    | true =>
      simp only [if_true]
      rw [hl, List.take_left, List.drop_left]
    | false => rw [hl]; rfl
  · simp only [List.isEmpty_cons, Bool.not_false, if_true, reduceCtorEq, false_and, if_false]
    cases put with
    | true =>
      simp only [if_true]
      rw [hl]
      simp
    | false =>
      simp only [Bool.false_eq_true, if_false]
      rw [hl, List.eraseIdx_append_of_length_le (Nat.le_refl _), Nat.sub_self]
      rfl

theorem cut_right {l : List Pr} (key : List UInt8) (h : rightB l = true) : ∃ A C B, Cut l key A C B := by
  simp only [rightB, Bool.and_eq_true] at h
  exact cut_at l key ((above_iff [] l).1 h.1).2.2
/-- Pairs that are left are right. -/
theorem right_sub {l m : List Pr} (h : rightB l = true) (hs : m.Sublist l) : rightB m = true := by
  simp only [rightB, Bool.and_eq_true, decide_eq_true_eq] at h ⊢
  obtain ⟨h1, h2, h3⟩ := (above_iff [] l).1 h.1
  exact ⟨(above_iff [] m).2 ⟨fun p hp => h1 p (hs.subset hp), fun p hp => h2 p (hs.subset hp), h3.sublist hs⟩, Nat.le_trans hs.length_le h.2⟩
theorem Cut.put_right {l : List Pr} {key val : List UInt8} {A C B : List Pr} (hc : Cut l key A C B) (h : rightB l = true) (hk : okP (key, val) = true) (hn : ¬ (C = [] ∧ l.length = 2000)) : rightB (A ++ (key, val) :: B) = true := by
  simp only [rightB, Bool.and_eq_true, decide_eq_true_eq] at h ⊢
  obtain ⟨h1, h2, h3⟩ := (above_iff [] l).1 h.1
  have hlen : l.length = A.length + (C.length + B.length) := by rw [hc.eq]; simp
  rw [hc.eq] at h1 h2 h3
  obtain ⟨p1, p2, p3⟩ := List.pairwise_append.1 h3
  obtain ⟨q1, q2, q3⟩ := List.pairwise_append.1 p2
  refine ⟨(above_iff [] _).2 ⟨?_, ?_, ?_⟩, ?_⟩
  · intro p hp
    rcases List.mem_append.1 hp with hp | hp
    · exact h1 p (by simp [hp])
    · rcases List.mem_cons.1 hp with rfl | hp
      · exact hk
      · exact h1 p (by simp [hp])
  · intro p hp
    rcases List.mem_append.1 hp with hp | hp
    · exact h2 p (by simp [hp])
    · rcases List.mem_cons.1 hp with rfl | hp
      · exact nil_bl (okP_ne hk)
      · exact h2 p (by simp [hp])
  · refine List.pairwise_append.2 ⟨p1, List.pairwise_cons.2 ⟨fun q hq => hc.hi q hq, q2⟩, fun p hp q hq => ?_⟩
    rcases List.mem_cons.1 hq with rfl | hq
    · exact hc.lo p hp
    · exact p3 p hp q (by simp [hq])
  · rw [List.length_append, List.length_cons]
    rcases hc.mid with e | ⟨v, e⟩
    · rw [e] at hlen hn; simp at hlen hn; omega
    · rw [e] at hlen; simp at hlen; omega

/-- What stands under a key. -/
def findL (l : List Pr) (key : List UInt8) : Option (List UInt8) := (l.find? fun p => p.1 == key).map (·.2)
theorem find_none {l : List Pr} {key : List UInt8} (h : ∀ p ∈ l, p.1 ≠ key) : (l.find? fun p => p.1 == key) = none := by
  rw [List.find?_eq_none]; intro p hp; simpa using h p hp
theorem Cut.lo_ne {l : List Pr} {key : List UInt8} {A C B : List Pr} (h : Cut l key A C B) : ∀ p ∈ A, p.1 ≠ key := fun p hp e => by
  have := h.lo p hp; rw [e, bl_irrefl] at this; cases this
theorem Cut.hi_ne {l : List Pr} {key : List UInt8} {A C B : List Pr} (h : Cut l key A C B) : ∀ p ∈ B, p.1 ≠ key := fun p hp e => by
  have := h.hi p hp; rw [e, bl_irrefl] at this; cases this
theorem Cut.find_put {l : List Pr} {key val : List UInt8} {A C B : List Pr} (h : Cut l key A C B) : findL (A ++ (key, val) :: B) key = some val := by
  unfold findL
  rw [List.find?_append, find_none h.lo_ne]
  simp
theorem Cut.find_gone {l : List Pr} {key : List UInt8} {A C B : List Pr} (h : Cut l key A C B) : findL (A ++ B) key = none := by
  unfold findL
  rw [List.find?_append, find_none h.lo_ne, find_none h.hi_ne]; rfl
theorem find_skip {A B : List Pr} {p : Pr} {o : List UInt8} (h : p.1 ≠ o) : findL (A ++ p :: B) o = findL (A ++ B) o := by
  have : (p.1 == o) = false := by simpa using h
  unfold findL
  rw [List.find?_append, List.find?_append, List.find?_cons, this]
theorem Cut.find_other {l : List Pr} {key o : List UInt8} {A C B : List Pr} (h : Cut l key A C B) (ho : key ≠ o) : findL l o = findL (A ++ B) o := by
  rw [h.eq]
  rcases h.mid with rfl | ⟨v, rfl⟩
  · rfl
  · exact find_skip ho
end Go.Proofs.YtkgbngonbbajkaaE
