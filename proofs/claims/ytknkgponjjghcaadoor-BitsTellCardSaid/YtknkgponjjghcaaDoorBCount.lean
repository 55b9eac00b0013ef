/- math/bits.OnesCount64, as printed, counts a set's numbers; sets put together have as many as their parts. No conditions. -/
import Derived.Test.YtknkgponjjghcaaDoorBSem
set_option linter.unusedVariables false
set_option linter.unusedSimpArgs false
namespace Go.Proofs.YtknkgponjjghcaaDoor.P
open Go.RowKit Go.Proofs.YtknkgponjjghcaaDoorW.PrintWords Go.Proofs.YtknkgponjjghcaaDoorW.PrintLast Go.Proofs.YtknkgponjjghcaaDoorW.PrintMore

def o1 (x : Int) : Int := IntKind.u64.wrap (Go.bits .and .u64 (x / 2) 6148914691236517205 + Go.bits .and .u64 x 6148914691236517205)
def o2 (x : Int) : Int := IntKind.u64.wrap (Go.bits .and .u64 (x / 4) 3689348814741910323 + Go.bits .and .u64 x 3689348814741910323)
def o3 (x : Int) : Int := Go.bits .and .u64 (IntKind.u64.wrap (x / 16 + x)) 1085102592571150095
def o4 (x : Int) : Int := IntKind.u64.wrap (x + x / 256)
def o5 (x : Int) : Int := IntKind.u64.wrap (x + x / 65536)
def o6 (x : Int) : Int := IntKind.u64.wrap (x + x / 4294967296)
theorem ones_is (a : Int) : bits_OnesCount64.f a = some (Go.bits .and .i64 (wrap64 (o6 (o5 (o4 (o3 (o2 (o1 a))))))) 127) := rfl

theorem bits_and_127 (x : Nat) (h : x < 9223372036854775808) : Go.bits .and .i64 (x : Int) 127 = ((x % 128 : Nat) : Int) := by
  have h1 : (BitVec.ofInt 64 (x : Int)).toNat = x := by
    rw [BitVec.ofInt_natCast, BitVec.toNat_ofNat]; exact Nat.mod_eq_of_lt (by omega)
  show IntKind.i64.wrap ((BitVec.ofInt 64 (x : Int) &&& BitVec.ofInt 64 127).toNat : Int) = _
  rw [BitVec.toNat_and, h1, show (BitVec.ofInt 64 127).toNat = 2 ^ 7 - 1 from rfl, Nat.and_two_pow_sub_one_eq_mod]
  have : x % 2 ^ 7 = x % 128 := rfl
  rw [this]
  have hw : x % 128 < 128 := Nat.mod_lt _ (by decide)
  generalize x % 128 = y at hw
  rw [i64_w]
  unfold wrap64
  omega

theorem V_lt8 : ∀ (l : List Nat) (n : Nat), l.length = n → (∀ b ∈ l, b < 256) → V l < 256 ^ n
  | [], n, h, _ => by subst h; simp [V]
  | b :: l, n, h, hb => by
    subst h
    have ih := V_lt8 l _ rfl (fun x hx => hb x (List.mem_cons_of_mem _ hx))
    have h1 := hb b List.mem_cons_self
    simp only [V, List.length_cons, Nat.pow_succ]
    omega
theorem cnt_bits (a : Nat) : (bitsOf a).length = cnt 64 a := rfl
theorem add_plain_u64 (x y : Nat) (h : x + y < 18446744073709551616) : IntKind.u64.wrap ((x : Int) + (y : Int)) = ((x + y : Nat) : Int) := by rw [IntKind.wrap_u64]; omega

theorem V_drop1 (d0 : Nat) (l : List Nat) (h0 : d0 < 256) : ((V (d0 :: l) : Nat) : Int) / 256 = ((V l : Nat) : Int) := by simp only [V]; omega
theorem V_drop2 (d0 d1 : Nat) (l : List Nat) (h0 : d0 < 256) (h1 : d1 < 256) : ((V (d0 :: d1 :: l) : Nat) : Int) / 65536 = ((V l : Nat) : Int) := by simp only [V]; omega
theorem V_drop4 (d0 d1 d2 d3 : Nat) (l : List Nat) (h0 : d0 < 256) (h1 : d1 < 256) (h2 : d2 < 256) (h3 : d3 < 256) : ((V (d0 :: d1 :: d2 :: d3 :: l) : Nat) : Int) / 4294967296 = ((V l : Nat) : Int) := by simp only [V]; omega

theorem ones_eq (a : Nat) (ha : a < 18446744073709551616) : bits_OnesCount64.f a = some (((bitsOf a).length : Nat) : Int) := by
  obtain ⟨b0, b1, b2, b3, b4, b5, b6, b7, h0, h1, h2, h3, h4, h5, h6, h7, rfl⟩ := bytes_of a ha
  have all8 : ∀ (f : Nat → Nat) (p : Nat → Prop), (∀ b, b < 256 → p (f b)) → ∀ x ∈ [f b0, f b1, f b2, f b3, f b4, f b5, f b6, f b7], p x := fun f p hf x hx => by
    simp only [List.mem_cons, List.not_mem_nil, or_false] at hx
    rcases hx with rfl | rfl | rfl | rfl | rfl | rfl | rfl | rfl <;> exact hf _ (by assumption)
  have V8 : ∀ l : List Nat, l.length = 8 → (∀ b ∈ l, b < 256) → V l < 18446744073709551616 := fun l hl hb => V_lt8 l 8 hl hb
  obtain ⟨A, hA⟩ : ∃ A, A = V [b0, b1, b2, b3, b4, b5, b6, b7] := ⟨_, rfl⟩
  obtain ⟨B, hB⟩ : ∃ B, B = V [f1 b0, f1 b1, f1 b2, f1 b3, f1 b4, f1 b5, f1 b6, f1 b7] := ⟨_, rfl⟩
  obtain ⟨C, hC⟩ : ∃ C, C = V [f2 (f1 b0), f2 (f1 b1), f2 (f1 b2), f2 (f1 b3), f2 (f1 b4), f2 (f1 b5), f2 (f1 b6), f2 (f1 b7)] := ⟨_, rfl⟩
  have hAl : A < 18446744073709551616 := hA ▸ ha
  have hBl : B < 18446744073709551616 := hB ▸ V8 _ rfl (all8 f1 (· < 256) fun b hb => by have := f1_lt b hb; omega)
  have hCl : C < 18446744073709551616 := hC ▸ V8 _ rfl (all8 (fun b => f2 (f1 b)) (· < 256) fun b hb => (pc_byte b hb).2.2.1)
  have s1 : (A / 2 &&& 6148914691236517205) + (A &&& 6148914691236517205) = B := by
    have := step1 [b0, b1, b2, b3, b4, b5, b6, b7] (all8 id (· < 256) fun b hb => hb)
    simp only [List.map_cons, List.map_nil] at this
    rw [← hA, ← hB, show V [85, 85, 85, 85, 85, 85, 85, 85] = 6148914691236517205 by simp [V]] at this
    exact this
  have s2 : (B / 4 &&& 3689348814741910323) + (B &&& 3689348814741910323) = C := by
    have := step2 [f1 b0, f1 b1, f1 b2, f1 b3, f1 b4, f1 b5, f1 b6, f1 b7] (all8 f1 (· < 256) fun b hb => by have := f1_lt b hb; omega)
    simp only [List.map_cons, List.map_nil] at this
    rw [← hB, ← hC, show V [51, 51, 51, 51, 51, 51, 51, 51] = 3689348814741910323 by simp [V]] at this
    exact this
  have s3 : (C / 16 + C) &&& 1085102592571150095 = V [cnt 8 b0, cnt 8 b1, cnt 8 b2, cnt 8 b3, cnt 8 b4, cnt 8 b5, cnt 8 b6, cnt 8 b7] := by
    have := step3 [f2 (f1 b0), f2 (f1 b1), f2 (f1 b2), f2 (f1 b3), f2 (f1 b4), f2 (f1 b5), f2 (f1 b6), f2 (f1 b7)] (all8 (fun b => f2 (f1 b)) (fun x => nib x = true) fun b hb => (pc_byte b hb).1)
    simp only [List.map_cons, List.map_nil] at this
    rw [← hC, show V [15, 15, 15, 15, 15, 15, 15, 15] = 1085102592571150095 by simp [V]] at this
    simp only [(pc_byte _ h0).2.1, (pc_byte _ h1).2.1, (pc_byte _ h2).2.1, (pc_byte _ h3).2.1, (pc_byte _ h4).2.1, (pc_byte _ h5).2.1, (pc_byte _ h6).2.1, (pc_byte _ h7).2.1] at this
    exact this
  have hC16 : C / 16 + C < 18446744073709551616 := by
    have hn : ∀ x ∈ [f2 (f1 b0), f2 (f1 b1), f2 (f1 b2), f2 (f1 b3), f2 (f1 b4), f2 (f1 b5), f2 (f1 b6), f2 (f1 b7)], x ≤ 68 := all8 (fun b => f2 (f1 b)) (· ≤ 68) fun b hb => by
      have := (pc_byte b hb).1
      simp [nib] at this
      omega
    have hx := hn (f2 (f1 b7)) (by simp)
    have hl := V_lt8 [f2 (f1 b0), f2 (f1 b1), f2 (f1 b2), f2 (f1 b3), f2 (f1 b4), f2 (f1 b5), f2 (f1 b6)] 7 rfl (fun x hx => Nat.lt_of_le_of_lt (hn x (List.mem_append_left [f2 (f1 b7)] hx)) (by decide))
    simp only [V] at hC hl
    omega
  have cb : cnt 64 (V [b0, b1, b2, b3, b4, b5, b6, b7]) = cnt 8 b0 + cnt 8 b1 + cnt 8 b2 + cnt 8 b3 + cnt 8 b4 + cnt 8 b5 + cnt 8 b6 + cnt 8 b7 := by
    simp only [V]
    rw [show (64 : Nat) = 8 + (8 + (8 + (8 + (8 + (8 + (8 + (8 + 0))))))) from rfl, cnt_byte _ _ _ h0, cnt_byte _ _ _ h1, cnt_byte _ _ _ h2, cnt_byte _ _ _ h3, cnt_byte _ _ _ h4, cnt_byte _ _ _ h5, cnt_byte _ _ _ h6, cnt_byte _ _ _ h7]
    simp [cnt]
    omega
  have e1 : o1 (A : Int) = (B : Int) := by
    unfold o1
    rw [show (A : Int) / 2 = ((A / 2 : Nat) : Int) by omega]
    have q1 := bits_and_u64_nat (A / 2) 6148914691236517205 (by omega) (by omega)
    have q2 := bits_and_u64_nat A 6148914691236517205 hAl (by omega)
    rw [show ((6148914691236517205 : Nat) : Int) = 6148914691236517205 from rfl] at q1 q2
    rw [q1, q2, add_plain_u64 _ _ (by rw [s1]; exact hBl), s1]
  have e2 : o2 (B : Int) = (C : Int) := by
    unfold o2
    rw [show (B : Int) / 4 = ((B / 4 : Nat) : Int) by omega]
    have q1 := bits_and_u64_nat (B / 4) 3689348814741910323 (by omega) (by omega)
    have q2 := bits_and_u64_nat B 3689348814741910323 hBl (by omega)
    rw [show ((3689348814741910323 : Nat) : Int) = 3689348814741910323 from rfl] at q1 q2
    rw [q1, q2, add_plain_u64 _ _ (by rw [s2]; exact hCl), s2]
  have e3 : o3 (C : Int) = ((V [cnt 8 b0, cnt 8 b1, cnt 8 b2, cnt 8 b3, cnt 8 b4, cnt 8 b5, cnt 8 b6, cnt 8 b7] : Nat) : Int) := by
    unfold o3
    rw [show (C : Int) / 16 = ((C / 16 : Nat) : Int) by omega, add_plain_u64 _ _ hC16]
    have q1 := bits_and_u64_nat (C / 16 + C) 1085102592571150095 hC16 (by omega)
    rw [show ((1085102592571150095 : Nat) : Int) = 1085102592571150095 from rfl] at q1
    rw [q1, s3]
  rw [ones_is, ← hA, e1, e2, e3, cnt_bits, hA, cb]
  have p0 := (pc_byte _ h0).2.2.2
  have p1 := (pc_byte _ h1).2.2.2
  have p2 := (pc_byte _ h2).2.2.2
  have p3 := (pc_byte _ h3).2.2.2
  have p4 := (pc_byte _ h4).2.2.2
  have p5 := (pc_byte _ h5).2.2.2
  have p6 := (pc_byte _ h6).2.2.2
  have p7 := (pc_byte _ h7).2.2.2
  clear s1 s2 s3 e1 e2 e3 cb hC16 hAl hBl hCl hA hB hC all8 V8 ha
  generalize cnt 8 b0 = n0 at *
  generalize cnt 8 b1 = n1 at *
  generalize cnt 8 b2 = n2 at *
  generalize cnt 8 b3 = n3 at *
  generalize cnt 8 b4 = n4 at *
  generalize cnt 8 b5 = n5 at *
  generalize cnt 8 b6 = n6 at *
  generalize cnt 8 b7 = n7 at *
  clear h0 h1 h2 h3 h4 h5 h6 h7
  have g4 : o4 ((V [n0, n1, n2, n3, n4, n5, n6, n7] : Nat) : Int) = ((V [n0 + n1, n1 + n2, n2 + n3, n3 + n4, n4 + n5, n5 + n6, n6 + n7, n7] : Nat) : Int) := by
    unfold o4
    rw [V_drop1 _ _ (by omega), IntKind.wrap_u64]
    simp only [V]
    omega
  have g5 : o5 ((V [n0 + n1, n1 + n2, n2 + n3, n3 + n4, n4 + n5, n5 + n6, n6 + n7, n7] : Nat) : Int) = ((V [n0 + n1 + (n2 + n3), n1 + n2 + (n3 + n4), n2 + n3 + (n4 + n5), n3 + n4 + (n5 + n6), n4 + n5 + (n6 + n7), n5 + n6 + n7, n6 + n7, n7] : Nat) : Int) := by
    unfold o5
    rw [V_drop2 _ _ _ (by omega) (by omega), IntKind.wrap_u64]
    simp only [V]
    omega
  have g6 : o6 ((V [n0 + n1 + (n2 + n3), n1 + n2 + (n3 + n4), n2 + n3 + (n4 + n5), n3 + n4 + (n5 + n6), n4 + n5 + (n6 + n7), n5 + n6 + n7, n6 + n7, n7] : Nat) : Int) = ((V [n0 + n1 + n2 + n3 + n4 + n5 + n6 + n7, n1 + n2 + (n3 + n4) + (n5 + n6 + n7), n2 + n3 + (n4 + n5) + (n6 + n7), n3 + n4 + (n5 + n6) + n7, n4 + n5 + (n6 + n7), n5 + n6 + n7, n6 + n7, n7] : Nat) : Int) := by
    unfold o6
    rw [V_drop4 _ _ _ _ _ (by omega) (by omega) (by omega) (by omega), IntKind.wrap_u64]
    simp only [V]
    omega
  rw [g4, g5, g6]
  clear g4 g5 g6
  obtain ⟨X, hX⟩ : ∃ X, X = V [n0 + n1 + n2 + n3 + n4 + n5 + n6 + n7, n1 + n2 + (n3 + n4) + (n5 + n6 + n7), n2 + n3 + (n4 + n5) + (n6 + n7), n3 + n4 + (n5 + n6) + n7, n4 + n5 + (n6 + n7), n5 + n6 + n7, n6 + n7, n7] := ⟨_, rfl⟩
  rw [← hX]
  have hXl : X < 9223372036854775808 := by rw [hX]; simp only [V]; omega
  have hw : wrap64 (X : Int) = (X : Int) := by unfold wrap64; omega
  rw [hw, bits_and_127 X hXl]
  congr 2
  rw [hX]
  simp only [V]
  omega

theorem count_eq (a : Nat) (ha : a < 18446744073709551616) : bits_Count.f a = some (((bitsOf a).length : Nat) : Int) := by
  unfold bits_Count.f
  rw [ones_eq a ha]
  rfl

end Go.Proofs.YtknkgponjjghcaaDoor.P
