/- Library functions by the kit's own contracts: strings.Repeat, strings.Trim of one byte. -/
import Derived.Test.YtkgbngonbbajkaaDoorT
import Derived.Test.YtkgbngonbbajkaaDoorSh
set_option linter.unusedSimpArgs false
set_option linter.unusedVariables false
namespace Go.Proofs.YtkgbngonbbajkaaDoorE
open Go Go.RowKit

theorem Inv.below {K : Kn} {H : Heap} {w w' : World} (h : Inv K H w) (hb : Below w.heap.size w w') : Inv K H w' := by
  have hc : ∀ b j x, w.cell? ⟨b, j, none⟩ = some x → w'.cell? ⟨b, j, none⟩ = some x := by
    intro b j x hx
    have hlt : b < w.heap.size := by
      by_cases hl : b < w.heap.size
      · exact hl
      · rw [World.cell?, Array.getElem?_eq_none (by simpa using hl)] at hx; cases hx
    rw [World.cell?, hb.block b hlt]; exact hx
  refine ⟨fun i b hi => Nat.lt_of_lt_of_le (h.mu_lt i b hi) hb.size, h.mu_next, h.resv, fun b j x hx => hc b j x (h.cell b j x hx), fun b n hn => ?_, fun i o hi => ?_, h.inj, fun i b c e fr hi hw => ?_⟩
  · obtain ⟨c, e, fr, h1, h2⟩ := h.bsize b n hn
    exact ⟨c, e, fr, by rw [hb.block b (Array.getElem?_eq_some_iff.1 h1).1]; exact h1, h2⟩
  · obtain ⟨b, h1, h2, h3⟩ := h.live i o hi
    exact ⟨b, h1, h2.world (hb.block b (h.mu_lt i b h1)), h3⟩
  · rw [hb.block b (h.mu_lt i b hi)] at hw
    exact h.tys i b c e fr hi hw
theorem Fr.below {K : Kn} {H : Heap} {w w' : World} (hb : Below w.heap.size w w') : Fr K H w K H w' :=
  ⟨hb.size, fun b hl _ => hb.block b hl, fun _ h => .inl h, fun _ _ _ _ => rfl, hb.os, hb.output⟩

/-- A contract of the library's, as one of ours. -/
theorem Pf.below {P : Program} {f : Nat} {fn : Func} {c : Code} {args : List V} {v : V} {xs : List Value} {x : Value} (hf : P.funcs[f]? = some fn) (hb : fn.body = some c) (hname : (fn.name == "runtime.NumGoroutine") = false)
    (ha : ∀ K ys, VRels K args ys → ys = xs) (hv : ∀ K, VRel K v x) (h : ∀ w, Calls P f xs.toArray w fun e w' => e = .returned x ∧ Below w.heap.size w w') : Pf P f args v := fun H => by
  refine .inl ⟨fun zs w => ?_, fun K w ys hx hI => ?_⟩
  · have h2 : fn.name ≠ "runtime.NumGoroutine" := by simpa using hname
    unfold callFunc
    simp [hf, h2, hb]
  · rw [ha K ys hx]
    refine (callsIn_wide.2 (h w)).mono fun e w' ⟨he, hB⟩ => ?_
    exact ⟨v, x, K, H, he, ⟨rfl, rfl⟩, hv K, hI.below hB, Kn.le.refl K, Fr.below hB⟩
theorem VRel.str_inv {K : Kn} {s : List UInt8} {x : Value} (h : VRel K (.str s) x) : x = .string ⟨s.toArray⟩ := by cases h; rfl
theorem VRel.int_inv {K : Kn} {k : IntKind} {n : Int} {x : Value} (h : VRel K (.int k n) x) : x = .int k n := by cases h; rfl
theorem args_si {K : Kn} {s : List UInt8} {k : IntKind} {n : Int} {ys : List Value} (h : VRels K [.str s, .int k n] ys) : ys = [.string ⟨s.toArray⟩, .int k n] := by
  obtain ⟨y, ys, rfl, h1, h2⟩ := h.head
  obtain ⟨z, zs, rfl, h3, h4⟩ := h2.head
  obtain rfl := h4.nil_inv
  rw [h1.str_inv, h3.int_inv]
theorem args_ss {K : Kn} {s t : List UInt8} {ys : List Value} (h : VRels K [.str s, .str t] ys) : ys = [.string ⟨s.toArray⟩, .string ⟨t.toArray⟩] := by
  obtain ⟨y, ys, rfl, h1, h2⟩ := h.head
  obtain ⟨z, zs, rfl, h3, h4⟩ := h2.head
  obtain rfl := h4.nil_inv
  rw [h1.str_inv, h3.str_inv]

theorem repeat_pf (c : UInt8) (n : Nat) (hn : n ≤ 100000) : Pf Tryd.prog 60 [.str [c], .int .i64 n] (.str (List.replicate n c)) := by
  refine Pf.below Tryd.func60 rfl (by kernel_rfl) (fun K ys h => args_si h) (fun K => .str _) fun w => ?_
  refine (Calls.mono (Tryd.strings_Repeat ⟨[c].toArray⟩ n w (by omega) (by show 1 * n ≤ _; omega)) ?_)
  rintro e w' ⟨rfl, h⟩
  refine ⟨?_, h⟩
  have e1 : Lib.repeatL (List.replicate 1 c) n = List.replicate (n * 1) c := Lib.repeatL_replicate c 1 n
  rw [Nat.mul_one] at e1
  show Ending.returned (.string ⟨(Lib.repeatL [c] n).toArray⟩) = _
  rw [show [c] = List.replicate 1 c from rfl, e1]

theorem trim_pf (s : List UInt8) (hs : s.length ≤ 9223372036854775807) : Pf Tryd.prog 51 [.str s, .str [0]] (.str (Lib.trimB s 0)) := by
  refine Pf.below Tryd.func51 rfl (by kernel_rfl) (fun K ys h => args_ss h) (fun K => .str _) fun w => ?_
  refine (Calls.mono (Tryd.strings_Trim_one ⟨s.toArray⟩ 0 (by decide) w (by simpa [ByteArray.size] using hs)) ?_)
  rintro e w' ⟨rfl, h⟩
  refine ⟨rfl, ?_⟩
  rcases h with rfl | rfl
  · exact Below.refl _ _
  · exact Below.drew (Below.refl _ _)

/-! ### Room for so many bytes -/
theorem grow_nil (n : Nat) (h0 : 0 < n) (hn : n ≤ 100000000000000) : Fn Tryd.prog 91 [.nils, .int .i64 n] Heap.nil fun v H' => ∃ id cap, idty id = 5 ∧ v = .mc 1 id 0 0 cap ∧ n ≤ cap ∧ H' = Heap.nil.set id (.cells []) := by
  refine ⟨fun zs w => ?_, fun K w ys hx hI => ?_⟩
  · have h1 : Tryd.f91.name ≠ "runtime.NumGoroutine" := by decide
    obtain ⟨c, hc⟩ : ∃ c, Tryd.f91.body = some c := ⟨_, rfl⟩
    unfold callFunc
    simp [Tryd.func91, h1, hc]
  · obtain ⟨y, ys, rfl, h1, h2⟩ := hx.head
    obtain ⟨z, zs, rfl, h3, h4⟩ := h2.head
    obtain rfl := h4.nil_inv
    have e1 : y = .slice none 0 0 := by cases h1; rfl
    rw [e1, h3.int_inv]
    have hT : ty Tryd.prog 5 = some ⟨.int .u8, 1, 1, .int .u8 0⟩ := ty5
    obtain ⟨i, d, z, F⟩ := ty_inv hT
    have hb : i.bytes = 1 := F.bytes
    have hs : i.size = 1 := F.size
    refine (callsIn_wide.2 (Any8.slices_Grow_grow Tryd.growB i z F.info F.zero (by omega) none 0 0 n [] w (by omega) (by omega) (by rw [hb]; omega) (by omega) (by simp) (fun _ => rfl) (fun a h => by cases h))).mono fun e w' ⟨he, hw⟩ => ?_
    have hge := grownCap_ge w (0 + n) 0 5
    have hr : Tryd.growB_ren.t 25 = 5 := rfl
    rw [hr] at he hw
    generalize grownCap w (0 + n) 0 5 = cap at he hw hge
    obtain ⟨xs, hx, hxr, _⟩ := lies_cells (F.zrel K) rfl
    have hxl : xs.length = 1 := by rw [hxr.1]; rfl
    generalize hC : (#[] ++ Builtin.zeroCells z.cells (0 + n - 0) ++ Builtin.zeroCells z.cells (cap - (0 + n)) : Array Value) = C at hw
    have hcs : C.size = cap := by
      rw [← hC, Array.size_append, Array.size_append, size_zeroCells, size_zeroCells, hx]
      simp only [List.size_toArray, hxl, Array.size_empty, List.length_nil]; omega
    obtain ⟨K', r2, r3, r4, r5, r6⟩ := new_own hI.drew (id := idOf K.next 5) (hI.mu_idOf 5) (e := 5) (idty_idOf _ _) (fr := (0, 0)) (c := C) ⟨fun j _ hj => by omega, .inr rfl⟩ (VRels.nil (K := K)) (fun v hv => by cases hv) (fun j x hj => by cases hj) (by simp)
    subst hw
    refine ⟨_, _, K', _, he, ⟨idOf K.next 5, cap, idty_idOf _ _, rfl, by omega, rfl⟩, .mc _ _ _ _ _ _ _ r5 (by omega) r6 (by omega), r2, r3.toLe (hI.free_next 5), ((Fr.drew K Heap.nil w).trans r4)⟩
end Go.Proofs.YtkgbngonbbajkaaDoorE
