/- SectorDoes' second argument. -/
import Derived.Test.YtifcilkhmigdlaaS10V
import Derived.Test.YtifcilkhmigdlaaR1
set_option linter.unusedSimpArgs false
set_option linter.unusedVariables false
namespace Go.Proofs.YtifcilkhmigdlaaE
open Go Go.RowKit Go.WideShapes Go.ChangeShapes

def intS (vs : List V) : Prop := ∃ m, IntKind.i64.min ≤ m ∧ m ≤ IntKind.i64.max ∧ vs = [.int .i64 m]
def byteS (vs : List V) : Prop := ∃ m, IntKind.u8.min ≤ m ∧ m ≤ IntKind.u8.max ∧ vs = [.int .u8 m]
def intsS (vs : List V) : Prop := ∃ l : List (List V), (∀ x ∈ l, intS x) ∧ l.length ≤ maxLen ∧ vs = [.sl 1 (l.map (wrapV false)) .none]
theorem rd_ints {H : Type} {enc : TypeId × Value → H} (n : Nat) : Rd enc Try.prog n 22 intsS := by
  cases n with
  | zero => exact Rd.zero
  | succ n => exact Rd.slice (agg := false) Try.underlying22 (by kernel_rfl) (by decide) (fun _ => rfl) (Rd.int Try.underlying3 n) (by rintro _ ⟨m, _, _, rfl⟩; rfl)
theorem rd_op {H : Type} {enc : TypeId × Value → H} (n : Nat) : Rd enc Try.prog n 44 (Parts [intS, intS, byteS, intS, intsS]) := by
  cases n with
  | zero => exact Rd.zero
  | succ n => exact Rd.struct Try.underlying44 (by kernel_rfl) (.cons (Rd.int Try.underlying3 n) (.cons (Rd.int Try.underlying3 n) (.cons (Rd.int Try.underlying5 n) (.cons (Rd.int Try.underlying3 n) (.cons (rd_ints n) .nil)))))
theorem rd_ops {H : Type} {enc : TypeId × Value → H} (n : Nat) : Rd enc Try.prog n 39 fun vs => ∃ l : List (List V), (∀ x ∈ l, Parts [intS, intS, byteS, intS, intsS] x) ∧ l.length ≤ maxLen ∧ vs = [.sl 5 (l.map (wrapV true)) .none] := by
  cases n with
  | zero => exact Rd.zero
  | succ n => exact Rd.slice (agg := true) Try.underlying39 (by kernel_rfl) (by decide) (fun h => by cases h) (rd_op n) (by
      rintro _ ⟨a, b, rfl, ⟨m1, _, _, rfl⟩, c, d, rfl, ⟨m2, _, _, rfl⟩, e, f, rfl, ⟨m3, _, _, rfl⟩, g, h, rfl, ⟨m4, _, _, rfl⟩, i, j, rfl, ⟨l, _, _, rfl⟩, rfl⟩; rfl)
theorem ints_of : ∀ l : List (List V), (∀ x ∈ l, intS x) → ∃ ns : List Int, l.map (wrapV false) = ns.map (.int .i64)
  | [], _ => ⟨[], rfl⟩
  | x :: l, h => by
    obtain ⟨m, h1, h2, rfl⟩ := h x (by simp)
    obtain ⟨ns, h4⟩ := ints_of l fun y hy => h y (by simp [hy])
    exact ⟨m :: ns, by simp [h4, wrapV]⟩
theorem op_of {x : List V} (h : Parts [intS, intS, byteS, intS, intsS] x) : ∃ o : OpT, o.n ≤ 9223372036854775807 ∧ .agg x = opV o := by
  obtain ⟨a, b, rfl, ⟨m1, _, _, rfl⟩, c, d, rfl, ⟨m2, _, _, rfl⟩, e, f, rfl, ⟨m3, h31, h32, rfl⟩, g, h, rfl, ⟨m4, _, h42, rfl⟩, i, j, rfl, ⟨l, hl, _, rfl⟩, rfl⟩ := h
  obtain ⟨ns, hns⟩ := ints_of l hl
  simp only [IntKind.min, IntKind.max, IntKind.bits, IntKind.signed] at h31 h32 h42
  refine ⟨⟨m1, m2, UInt8.ofNat m3.toNat, m4, ns⟩, by simpa using h42, ?_⟩
  have e3 : ((UInt8.ofNat m3.toNat).toNat : Int) = m3 := by
    simp at h31 h32
    simp [UInt8.toNat_ofNat']
    omega
  simp only [opV, e3, hns, List.cons_append, List.nil_append]
theorem ops_of : ∀ l : List (List V), (∀ x ∈ l, Parts [intS, intS, byteS, intS, intsS] x) → ∃ os : List OpT, (∀ o ∈ os, o.n ≤ 9223372036854775807) ∧ l.map (wrapV true) = os.map opV
  | [], _ => ⟨[], by simp, rfl⟩
  | x :: l, h => by
    obtain ⟨o, h1, h2⟩ := op_of (h x (by simp))
    obtain ⟨os, h3, h4⟩ := ops_of l fun y hy => h y (by simp [hy])
    exact ⟨o :: os, fun p hp => by rcases List.mem_cons.1 hp with rfl | hp; exact h1; exact h3 p hp, by simp [h4, wrapV, h2]⟩
theorem ops_arg {H : Type} {enc : TypeId × Value → H} {W : World} {base : Nat} {v : Value} {d : DataW H} {ps : List MemPlace} (hv : Value.okWide Try.prog W .any base 39 v)
    (hd : DataW.Trod enc Try.prog W 0 (fun _ => true) true 39 v d ps) : ∃ l : List OpT, (∀ o ∈ l, o.n ≤ 9223372036854775807) ∧ VRel (KW W) (opsV l) v := by
  obtain ⟨u, ⟨l, h1, _, h2⟩, hr⟩ := slice_arg Try.underlying39 (rd_ops) hv hd (fun vs ⟨l, _, _, h⟩ => ⟨_, h⟩)
  obtain ⟨os, h3, h4⟩ := ops_of l h1
  simp only [List.cons.injEq, and_true] at h2
  subst h2
  rw [h4] at hr
  exact ⟨os, h3, hr⟩

end Go.Proofs.YtifcilkhmigdlaaE
