/- Layer 12: pairs are read from their bytes as they are. -/
import Derived.Test.YtkgbngonbbajkaaDoorS12S
set_option linter.unusedSimpArgs false
set_option linter.unusedVariables false
-- elder
namespace Go.Proofs.YtkgbngonbbajkaaDoorE
open Go
set_option linter.unusedSimpArgs false
set_option linter.unusedVariables false

theorem sharedN_take : ∀ a b : List UInt8, a.take (sharedN a b) = b.take (sharedN a b)
  | [], b => by simp [sharedN]
  | x :: a, [] => by simp [sharedN]
  | x :: a, y :: b => by
    simp only [sharedN]
    split
    · rename_i h
      subst h
      rw [List.take_succ_cons, List.take_succ_cons, sharedN_take a b]
    · simp
theorem drop_len {l m r : List UInt8} {a : Nat} (h : l.drop a = m ++ r) : l.drop (a + m.length) = r := by
  rw [← List.drop_drop, h, List.drop_left]

theorem stepR_inv (b : List UInt8) (a : Nat) (w : List UInt8) (p : Pr) (e : Nat) (h : stepR b a w = some (p, e)) : b.drop a = oneB w p ++ b.drop e ∧ e ≤ b.length := by
  unfold stepR at h
  split at h
  · rename_i hc
    simp only [Option.some.injEq, Prod.mk.injEq] at h
    obtain ⟨hp, he⟩ := h
    simp only [Bool.and_eq_true, decide_eq_true_eq] at hc
    obtain ⟨hk, hs⟩ := hc
    unfold stepK at hk
    simp only [Bool.and_eq_true, decide_eq_true_eq] at hk
    obtain ⟨⟨⟨h1, h2⟩, h3⟩, h4⟩ := hk
    obtain ⟨⟨n, i⟩, e1⟩ := Option.isSome_iff_exists.1 h1
    unfold keyR at hs hp
    unfold valR at hp he
    rw [e1] at h2 h3 h4 hs hp he
    simp only [nI, nX] at h2 h3 h4 hs hp he
    obtain ⟨⟨s, j⟩, e2⟩ := Option.isSome_iff_exists.1 h2
    rw [e2] at h3 hs hp he
    simp only [tI, tS] at h3 hs hp he
    obtain ⟨⟨v, e0⟩, e3⟩ := Option.isSome_iff_exists.1 h3
    rw [e3] at hp he
    simp only [tI, tS] at hp he
    subst he
    subst hp
    have g1 := (takeN_inv b a n i e1).1
    have g2 := (takeT_inv b s i 600 j e2).1
    have g3 := takeT_inv b v j 12000 e0 e3
    refine ⟨?_, g3.2.2⟩
    have hd : (w.take n ++ s).drop n = s := by rw [List.drop_left' (by rw [List.length_take]; omega)]
    unfold oneB
    simp only [hs, hd]
    rw [g1, g2, g3.1, List.append_assoc, List.append_assoc]
  · cases h
theorem goR_inv (b : List UInt8) : ∀ (k a : Nat) (w : List UInt8) (l : List Pr) (f : Nat), goR b k a w = some (l, f) → b.drop a = bodyB w l ++ b.drop f ∧ l.length = k
  | 0, a, w, l, f, h => by
    simp only [goR, Option.some.injEq, Prod.mk.injEq] at h
    obtain ⟨rfl, rfl⟩ := h
    exact ⟨rfl, rfl⟩
  | k + 1, a, w, l, f, h => by
    rw [goR] at h
    split at h
    · cases h
    · rename_i p e hs
      split at h
      · cases h
      · rename_i m g hg
        simp only [Option.some.injEq, Prod.mk.injEq] at h
        obtain ⟨hl, hf⟩ := h
        subst hl
        subst hf
        have h1 := (stepR_inv b a w p e hs).1
        have h2 := goR_inv b k e p.1 m g hg
        refine ⟨?_, by rw [List.length_cons, h2.2]⟩
        rw [h1, h2.1, bodyB, List.append_assoc]
/-- What is read is right, and is laid as it was. -/
theorem readB_inv (b : List UInt8) (l : List Pr) (h : readB b = some l) : rightB l = true ∧ layB l = b := by
  unfold readB at h
  split at h
  · cases h
  · rename_i many a hN
    split at h
    · cases h
    · split at h
      · cases h
      · rename_i m f hg
        split at h
        · rename_i hc
          cases h
          refine ⟨hc.2, ?_⟩
          have h1 := (takeN_inv b 0 many a hN).1
          have h2 := goR_inv b many a [] l f hg
          rw [List.drop_zero] at h1
          rw [layB, h2.2, h1, h2.1, hc.1, List.drop_length, List.append_nil]
        · cases h

theorem stepR_lay (b r : List UInt8) (a : Nat) (w : List UInt8) (p : Pr) (hp : okP p = true) (h : b.drop a = oneB w p ++ r) : stepR b a w = some (p, a + (oneB w p).length) := by
  simp only [okP, Bool.and_eq_true, decide_eq_true_eq, Bool.not_eq_true', decide_eq_false_iff_not] at hp
  obtain ⟨⟨_, hk⟩, hv⟩ := hp
  have hsh := sharedN_le w p.1
  have h0 := h
  unfold oneB at h0
  rw [List.append_assoc, List.append_assoc] at h0
  have h1 := takeN_num b _ a (sharedN w p.1) (by omega) h0
  have h2 := drop_len h0
  have h3 := takeT_text b _ (p.1.drop (sharedN w p.1)) _ 600 (by rw [List.length_drop]; omega) (by omega) h2
  have h4 := drop_len h2
  have h5 := takeT_text b _ p.2 _ 12000 (by omega) (by omega) h4
  have hkey : keyR b a w = p.1 := by
    unfold keyR
    rw [h1]
    simp only [nX, nI]
    rw [h3]
    simp only [tS]
    rw [sharedN_take, List.take_append_drop]
  have hval : valR b a = some (p.2, a + (oneB w p).length) := by
    unfold valR
    rw [h1]
    simp only [nX, nI]
    rw [h3]
    simp only [tI]
    rw [h5]
    unfold oneB
    rw [List.length_append, List.length_append]
    congr 2; omega
  have hK : stepK b a w = true := by
    have hval2 := hval
    unfold valR at hval2
    unfold stepK
    rw [hval2, h1]
    simp only [nX, nI, h3, Option.isSome_some, Bool.and_self, Bool.true_and, ]
    exact decide_eq_true hsh.1
  unfold stepR
  rw [hK, hkey, hval, h1]
  simp only [nX, decide_true, Bool.and_self, if_true, tS, tI]
theorem goR_lay (b r : List UInt8) : ∀ (l : List Pr) (a : Nat) (w : List UInt8), above w l = true → b.drop a = bodyB w l ++ r → goR b l.length a w = some (l, a + (bodyB w l).length)
  | [], a, w, _, _ => rfl
  | p :: l, a, w, hu, h => by
    simp only [above, Bool.and_eq_true] at hu
    rw [bodyB, List.append_assoc] at h
    have h1 := stepR_lay b _ a w p hu.1.1 h
    have h2 := drop_len h
    have h3 := goR_lay b r l _ p.1 hu.2 h2
    rw [List.length_cons, goR, h1]
    simp only [h3]
    rw [bodyB, List.length_append]
    congr 2; omega
theorem readB_lay (l : List Pr) (h : rightB l = true) : readB (layB l) = some l := by
  have h0 := h
  simp only [rightB, Bool.and_eq_true, decide_eq_true_eq] at h0
  have h1 : (layB l).drop 0 = numB l.length ++ bodyB [] l := rfl
  have h2 := takeN_num (layB l) _ 0 l.length (by omega) h1
  have h3 : (layB l).drop (0 + (numB l.length).length) = bodyB [] l ++ [] := by rw [drop_len h1, List.append_nil]
  have h4 := goR_lay (layB l) [] l _ [] h0.1 h3
  have hlen : (layB l).length = 0 + (numB l.length).length + (bodyB [] l).length := by rw [layB, List.length_append]; omega
  unfold readB
  rw [show takeN (layB l) 0 = takeN (layB l) ((0 : Nat) : Int) from rfl, h2]
  simp only [h4, h]
  rw [if_neg (by omega), if_pos ⟨hlen.symm, trivial⟩]
theorem bodyB_len : ∀ (w : List UInt8) (l : List Pr), above w l = true → (bodyB w l).length ≤ l.length * 12627
  | _, [], _ => by simp [bodyB]
  | w, p :: l, h => by
    simp only [above, Bool.and_eq_true] at h
    have h1 := oneB_len w p h.1.1
    have h2 := bodyB_len p.1 l h.2
    rw [bodyB, List.length_append, List.length_cons]; omega
theorem layB_len (l : List Pr) (h : rightB l = true) : (layB l).length ≤ 9 + l.length * 12627 := by
  simp only [rightB, Bool.and_eq_true] at h
  have := numB_len l.length
  have h2 := bodyB_len [] l h.1
  rw [layB, List.length_append]; omega
end Go.Proofs.YtkgbngonbbajkaaDoorE
