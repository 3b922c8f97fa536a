/- Exact numbers: products. -/
import Derived.Test.YtcikcinkjbbnhaaDoorD9
set_option linter.unusedSimpArgs false
set_option linter.unusedVariables false
set_option pp.deepTerms false
set_option pp.maxSteps 1500
set_option maxRecDepth 10000
set_option maxHeartbeats 4000000
namespace Go.Proofs.YtcikcinkjbbnhaaDoor.M
open Go Go.Proofs

theorem mul_step {U : List Int} {i k : Nat} {c x y P Q : Int} (hi : i + k < U.length) (h : dv U + c * bp (i + k) = P + bp i * (x * Q)) :
    dv (U.set (i + k) ((c + (U.getD (i + k) 0 + x * y)) % 4294967296)) + (c + (U.getD (i + k) 0 + x * y)) / 4294967296 * bp (i + (k + 1)) = P + bp i * (x * (Q + bp k * y)) := by
  rw [dv_set hi, show i + (k + 1) = i + k + 1 by omega, bp_succ]
  obtain ⟨o, ho⟩ : ∃ o, U.getD (i + k) 0 = o := ⟨_, rfl⟩
  rw [ho]
  have h1 := Int.mul_ediv_add_emod (c + (o + x * y)) 4294967296
  generalize (c + (o + x * y)) / 4294967296 = q at h1 ⊢
  generalize (c + (o + x * y)) % 4294967296 = r at h1 ⊢
  have h2 : bp (i + k) * (4294967296 * q + r) = bp (i + k) * (c + (o + x * y)) := by rw [h1]
  have h3 : bp i * (x * (Q + bp k * y)) = bp i * (x * Q) + bp (i + k) * (x * y) := by
    rw [Int.mul_add x, Int.mul_add, bp_add, Int.mul_left_comm x, Int.mul_assoc (bp i)]
  have h4 : q * (4294967296 * bp (i + k)) = bp (i + k) * (4294967296 * q) := by rw [Int.mul_comm, Int.mul_comm 4294967296 (bp (i + k)), Int.mul_assoc]
  rw [h3, h4]
  rw [Int.mul_add, Int.mul_add, Int.mul_add] at h2
  rw [Int.mul_sub]
  have h5 : c * bp (i + k) = bp (i + k) * c := Int.mul_comm _ _
  omega
theorem prod_le {x y : Int} (hx : 0 ≤ x ∧ x < 4294967296) (hy : 0 ≤ y ∧ y < 4294967296) : 0 ≤ x * y ∧ x * y ≤ 18446744065119617025 := by
  refine ⟨Int.mul_nonneg hx.1 hy.1, ?_⟩
  have : x * y ≤ 4294967295 * 4294967295 := Int.mul_le_mul (by omega) (by omega) hy.1 (by decide)
  omega
theorem mul_num {H : MH} {sa sb la lb ea eb} {qa qb : Rat} {K L : Int} (ha : Num H sa la ea qa K) (hb : Num H sb lb eb qb L) (hK : 0 ≤ K ∧ K ≤ 400000000) (hL : 0 ≤ L ∧ L ≤ 400000000) :
    Spec Tryd.prog 23 [nv sa la ea, nv sb lb eb] H fun u H' => NumR H H' u (qa * qb) (K + L) := by
  have oa := ha.one
  have ob := hb.one
  refine enterS Tryd.func23 [.cell 4 34] ?_
  rcases ha with ⟨rfl, rfl, rfl, rfl⟩ | ⟨a, da, a1, a2, a3, rfl, a4, a5⟩
  · rcases hb with ⟨rfl, rfl, rfl, rfl⟩ | ⟨b, db, b1, b2, b3, rfl, b4, b5⟩
    · repeat' first | (with_reducible (show W _ _ _ _ _); with_reducible refine go2 ?_) | (with_reducible (show W _ _ _ _ _); with_reducible refine sg2 ?_ ?_ <;> intro _) | (with_reducible (show W _ _ _ _ _); with_reducible refine sc2 ?_ ?_ <;> intro _)
      all_goals first
        | (rw [Rat.zero_mul]; exact ⟨(Old.refl H).app _, false, _, 0, rfl, Num.zero _ _⟩)
        | (rename_i hh; exact absurd hh (by decide))
        | (rename_i hh _; exact absurd hh (by decide))
    · obtain ⟨pb, ob', cb, obb, rfl, hpb, hcb, hcellb⟩ := id db
      repeat' first | (with_reducible (show W _ _ _ _ _); with_reducible refine go2 ?_) | (with_reducible (show W _ _ _ _ _); with_reducible refine sg2 ?_ ?_ <;> intro _) | (with_reducible (show W _ _ _ _ _); with_reducible refine sc2 ?_ ?_ <;> intro _)
      all_goals first
        | (rw [Rat.zero_mul]; exact ⟨(Old.refl H).app _, false, _, 0, rfl, Num.zero _ _⟩)
        | (rename_i hh; exact absurd hh (by decide))
        | (rename_i hh _; exact absurd hh (by decide))
  obtain ⟨pa, oa', ca, oba, rfl, hpa, hca, hcella⟩ := id da
  have hla0 : ((a.length : Int) = 0) = False := eq_false (by have : a.length ≠ 0 := fun h => a2.1 (List.eq_nil_of_length_eq_zero h); omega)
  rcases hb with ⟨rfl, rfl, rfl, rfl⟩ | ⟨b, db, b1, b2, b3, rfl, b4, b5⟩
  · repeat' first | (with_reducible (show W _ _ _ _ _); with_reducible refine go2 ?_) | (with_reducible (show W _ _ _ _ _); with_reducible refine sg2 ?_ ?_ <;> intro _) | (with_reducible (show W _ _ _ _ _); with_reducible refine sc2 ?_ ?_ <;> intro _)
    all_goals first
      | (rw [Rat.mul_zero]; exact ⟨(Old.refl H).app _, false, _, 0, rfl, Num.zero _ _⟩)
      | (rename_i hh; exact absurd hh (by decide))
  obtain ⟨pb, ob', cb, obb, rfl, hpb, hcb, hcellb⟩ := id db
  have hlb0 : ((b.length : Int) = 0) = False := eq_false (by have : b.length ≠ 0 := fun h => b2.1 (List.eq_nil_of_length_eq_zero h); omega)
  obtain ⟨ba1, ba2⟩ := num_bd a1 a2 a4 a5
  obtain ⟨bb1, bb2⟩ := num_bd b1 b2 b4 b5
  have hq : sgn sa * ((dv a : Rat) * pw ea) * (sgn sb * ((dv b : Rat) * pw eb)) = sgn (sa != sb) * (((dv a * dv b : Int) : Rat) * pw (ea + eb)) := by
    rw [sgn_xor, Rat.intCast_mul, pw_add]; grind
  have hbound : ((dv a * dv b : Int) : Rat) * pw (ea + eb) < pw (K + L) := by
    rw [Rat.intCast_mul, pw_add, pw_add, show (dv a : Rat) * (dv b : Rat) * (pw ea * pw eb) = (dv a : Rat) * pw ea * ((dv b : Rat) * pw eb) by grind]
    have h1 : 0 < (dv b : Rat) * pw eb := Rat.mul_pos (by have := dv_rat b1 b2; grind) (pw_pos _)
    exact ltle (mulrl a5 h1) (mull (Rat.le_of_lt b5) (pw_nn _))
  rw [hq]
  replace hbound : Hid2 _ := hbound
  clear hq
  have f3 : ∀ m : Nat, (0 ≤ (m : Int)) = True := fun m => eq_true (by omega)
  have f5 : ∀ m : Nat, (m : Int).toNat = m := fun m => Int.toNat_natCast m
  have f6 : ∀ m : Nat, m * 1 = m := Nat.mul_one
  obtain ⟨na, hna⟩ : ∃ na, a.length = na := ⟨_, rfl⟩
  obtain ⟨nb, hnb⟩ : ∃ nb, b.length = nb := ⟨_, rfl⟩
  rw [hna] at hcella hca hla0
  rw [hnb] at hcellb hcb hlb0
  rw [hna, hnb]
  rw [hna] at da
  rw [hnb] at db
  have w0 : IntKind.i64.wrap ((na : Int) + (nb : Int)) = ((na + nb : Nat) : Int) := by rw [wrap_i64 (by omega)]; omega
  have we : IntKind.i64.wrap (ea + eb) = ea + eb := wrap_i64 (by omega)
  have hms := msV32 (n := na + nb) (m := na + nb) (Nat.le_refl _) (by omega)
  have hpaL : ∀ L : MH, hget (H ++ L) pa = some oba := fun L => hget_appL hpa
  have hpbL : ∀ L : MH, hget (H ++ L) pb = some obb := fun L => hget_appL hpb
  repeat' first | (with_reducible (show W _ _ _ _ _); with_reducible refine go2 ?_) | (with_reducible (show W _ _ _ _ _); with_reducible refine sg2 ?_ ?_ <;> intro _)
  refine W_for (fun j ρ C => ∃ (i : Nat) (U : List Int), i + j = na ∧ (U.length = na + nb ∧ D32 U ∧ Hid2 (dv U = dv (a.take i) * dv b) ∧ Hid2 (∀ t, i + nb ≤ t → U.getD t 0 = 0)) ∧ ρ 2 = .ptr H.length 0 ∧ ρ 3 = .ptr (H.length + 1) 0 ∧ ρ 4 = .ptr (H.length + 2) 0 ∧ ρ 5 = .slice (H.length + 3) 0 (na + nb) (na + nb) 1 ∧ ρ 31 = .slice pa oa' na ca 1 ∧ ρ 32 = i64 (na : Int) ∧ ρ 33 = i64 (i : Int) ∧
    C = H ++ [some ⟨[bl sa, .slice pa oa' na ca 1, i64 ea], true⟩, some ⟨[bl sb, .slice pb ob' nb cb 1, i64 eb], true⟩, some ⟨[bl false, .lit (.slice none 0 0), i64 0], true⟩, some ⟨U.map w32, true⟩]) na ?_ ?_
  · refine ⟨0, List.replicate (na + nb) 0, by omega, ⟨by simp, D32.rep _, ?_, ?_⟩, rfl, rfl, rfl, rfl, rfl, rfl, rfl, ?_⟩
    · show _ = _
      rw [dv_rep]; simp [dv]
    · intro t ht
      by_cases h : t < na + nb
      · simp [List.getD_eq_getElem?_getD, h]
      · rw [List.getD_eq_getElem?_getD, List.getElem?_eq_none (by simp; omega)]; rfl
    · simp [List.map_replicate]
  clear hms w0
  rintro j ρ C ⟨i, U, hi, ⟨hUl, hUd, hUv, hUz⟩, h2, h3, h4, h5, h31, h32, h33, rfl⟩
  by_cases hlt : (i : Int) < na
  · have f7 : oba.cells[oa' + i]? = some (w32 (a.getD i 0)) := hcella i (by omega)
    have e1 : IntKind.i64.wrap ((i : Int) + 1) = ((i + 1 : Nat) : Int) := by rw [wrap_i64 (by omega)]; omega
    have hdx := a1.get i
    have hsucc := dv_take_succ (l := a) (k := i) (by omega)
    replace hsucc : Hid2 _ := hsucc
    repeat' first | (with_reducible (show W _ _ _ _ _); with_reducible refine go2 ?_) | (with_reducible (show W _ _ _ _ _); with_reducible refine sg2 ?_ ?_ <;> intro _)
    refine W_for (fun j' ρ C => ∃ (k : Nat) (c : Int) (U : List Int), k + j' = nb ∧ (U.length = na + nb ∧ D32 U ∧ Hid2 (dv U + c * bp (i + k) = dv (a.take i) * dv b + bp i * (a.getD i 0 * dv (b.take k))) ∧ Hid2 (∀ t, i + nb ≤ t → U.getD t 0 = 0) ∧ 0 ≤ c ∧ c < 4294967296) ∧ ρ 2 = .ptr H.length 0 ∧ ρ 3 = .ptr (H.length + 1) 0 ∧ ρ 4 = .ptr (H.length + 2) 0 ∧ ρ 5 = .slice (H.length + 3) 0 (na + nb) (na + nb) 1 ∧ ρ 6 = i64 (i : Int) ∧ ρ 7 = w32 (a.getD i 0) ∧ ρ 8 = u64 c ∧ ρ 31 = .slice pa oa' na ca 1 ∧ ρ 32 = i64 (na : Int) ∧ ρ 33 = i64 (i : Int) ∧ ρ 39 = .slice pb ob' nb cb 1 ∧ ρ 40 = i64 (nb : Int) ∧ ρ 41 = i64 (k : Int) ∧
      C = H ++ [some ⟨[bl sa, .slice pa oa' na ca 1, i64 ea], true⟩, some ⟨[bl sb, .slice pb ob' nb cb 1, i64 eb], true⟩, some ⟨[bl false, .lit (.slice none 0 0), i64 0], true⟩, some ⟨U.map w32, true⟩]) nb ?_ ?_
    · refine ⟨0, 0, U, by omega, ⟨hUl, hUd, ?_, hUz, by decide, by decide⟩, h2, h3, h4, h5, rfl, rfl, rfl, h31, h32, h33, rfl, rfl, rfl, rfl⟩
      show _ = _
      rw [show dv U = _ from hUv]; simp [dv]
    clear h2 h3 h4 h5 h31 h32 h33 hUl hUd hUv hUz
    rintro j' ρ C ⟨k, c, U, hk, ⟨hUl, hUd, hUv, hUz, hc0, hc1⟩, h2, h3, h4, h5, h6, h7, h8, h31, h32, h33, h39, h40, h41, rfl⟩
    have hcel : ∀ t, t < na + nb → (U.map w32)[t]? = some (w32 (U.getD t 0)) := fun t ht => by
      have : t < U.length := by omega
      simp [List.getD_eq_getElem?_getD, this]
    by_cases hlk : (k : Int) < nb
    · have f8 : obb.cells[ob' + k]? = some (w32 (b.getD k 0)) := hcellb k (by omega)
      have e2 : IntKind.i64.wrap ((k : Int) + 1) = ((k + 1 : Nat) : Int) := by rw [wrap_i64 (by omega)]; omega
      have e3 : IntKind.i64.wrap ((i : Int) + (k : Int)) = ((i + k : Nat) : Int) := by rw [wrap_i64 (by omega)]; omega
      have f9 := hcel (i + k) (by omega)
      have f10 : (((i + k : Nat) : Int) < ((na + nb : Nat) : Int)) = True := eq_true (by omega)
      have f11 : (i + k + 1 ≤ (U.map w32).length) = True := eq_true (by simp; omega)
      have hdy := b1.get k
      have hdo := hUd.get (i + k)
      obtain ⟨p0, p1⟩ := prod_le hdx hdy
      have hst := mul_step (y := b.getD k 0) (by omega) (show dv U + c * bp (i + k) = dv (a.take i) * dv b + bp i * (a.getD i 0 * dv (b.take k)) from hUv)
      rw [← dv_take_succ (by omega)] at hst
      replace hst : Hid2 _ := hst
      have w1 : IntKind.u64.wrap (a.getD i 0) = a.getD i 0 := by rw [wrap_u64]; omega
      have w2 : IntKind.u64.wrap (b.getD k 0) = b.getD k 0 := by rw [wrap_u64]; omega
      have w3 : IntKind.u64.wrap (U.getD (i + k) 0) = U.getD (i + k) 0 := by rw [wrap_u64]; omega
      have w4 : IntKind.u64.wrap (a.getD i 0 * b.getD k 0) = a.getD i 0 * b.getD k 0 := by rw [wrap_u64]; exact Int.emod_eq_of_lt p0 (by omega)
      have w5 : IntKind.u64.wrap (U.getD (i + k) 0 + a.getD i 0 * b.getD k 0) = U.getD (i + k) 0 + a.getD i 0 * b.getD k 0 := by rw [wrap_u64]; exact Int.emod_eq_of_lt (by omega) (by omega)
      have w6 : IntKind.u64.wrap (c + (U.getD (i + k) 0 + a.getD i 0 * b.getD k 0)) = c + (U.getD (i + k) 0 + a.getD i 0 * b.getD k 0) := by rw [wrap_u64]; exact Int.emod_eq_of_lt (by omega) (by omega)
      have w7 := wrap_u32 (c + (U.getD (i + k) 0 + a.getD i 0 * b.getD k 0))
      have w8 := shr64 (x := c + (U.getD (i + k) 0 + a.getD i 0 * b.getD k 0)) (by omega)
      have hz' : ∀ v : Int, Hid2 (∀ t, i + nb ≤ t → (U.set (i + k) v).getD t 0 = 0) := fun v t ht => by
        rw [List.getD_eq_getElem?_getD, List.getElem?_set_ne (by omega), ← List.getD_eq_getElem?_getD]; exact hUz t ht
      clear hUv hUz
      repeat' first | (with_reducible (show W _ _ _ _ _); with_reducible refine go2 ?_) | (with_reducible (show W _ _ _ _ _); with_reducible refine sg2 ?_ ?_ <;> intro _) | (with_reducible (show W _ _ _ _ _); with_reducible refine sc2 ?_ ?_ <;> intro _)
      exact ⟨j' - 1, by omega, k + 1, _, _, by omega, ⟨by rw [List.length_set]; exact hUl, hUd.set _ ⟨Int.emod_nonneg _ (by decide), Int.emod_lt_of_pos _ (by decide)⟩, hst, hz' _, by omega, by omega⟩, rfl, rfl, by rw [List.map_set]⟩
    · have hkn : k = nb := by omega
      have e3 : IntKind.i64.wrap ((i : Int) + (nb : Int)) = ((i + nb : Nat) : Int) := by rw [wrap_i64 (by omega)]; omega
      have f10 : (((i + nb : Nat) : Int) < ((na + nb : Nat) : Int)) = True := eq_true (by omega)
      have f11 : (i + nb + 1 ≤ (U.map w32).length) = True := eq_true (by simp; omega)
      have w7 : IntKind.u32.wrap c = c := by rw [wrap_u32]; omega
      have hfin : Hid2 (dv (U.set (i + nb) c) = dv (a.take (i + 1)) * dv b) := by
        show _ = _
        have h1 : dv U + c * bp (i + k) = dv (a.take i) * dv b + bp i * (a.getD i 0 * dv (b.take k)) := hUv
        have h0 : U.getD (i + nb) 0 = 0 := hUz (i + nb) (Nat.le_refl _)
        rw [dv_set (by omega), h0, Int.sub_zero, show dv (a.take (i + 1)) = _ from hsucc, Int.add_mul, Int.mul_assoc]
        rw [hkn, dv_take_all (l := b) (k := nb) (by omega), Int.mul_comm c] at h1
        exact h1
      have hz' : Hid2 (∀ t, i + 1 + nb ≤ t → (U.set (i + nb) c).getD t 0 = 0) := fun t ht => by
        rw [List.getD_eq_getElem?_getD, List.getElem?_set_ne (by omega), ← List.getD_eq_getElem?_getD]; exact hUz t (by omega)
      clear hkn hUv hUz hsucc
      repeat' first | (with_reducible (show W _ _ _ _ _); with_reducible refine go2 ?_) | (with_reducible (show W _ _ _ _ _); with_reducible refine sg2 ?_ ?_ <;> intro _) | (with_reducible (show W _ _ _ _ _); with_reducible refine sc2 ?_ ?_ <;> intro _)
      exact ⟨j - 1, by omega, i + 1, _, by omega, ⟨by rw [List.length_set]; exact hUl, hUd.set _ ⟨hc0, hc1⟩, hfin, hz'⟩, rfl, by rw [List.map_set]⟩
  · have hval : ((dv U : Int) : Rat) * pw (ea + eb) = ((dv a * dv b : Int) : Rat) * pw (ea + eb) := by
      rw [show dv U = _ from hUv, dv_take_all (by omega)]
    have hDU : ∀ L : MH, Dg (H ++ some ⟨[bl sa, .slice pa oa' na ca 1, i64 ea], true⟩ :: some ⟨[bl sb, .slice pb ob' nb cb 1, i64 eb], true⟩ :: some ⟨[bl false, .lit (.slice none 0 0), i64 0], true⟩ :: some ⟨U.map w32, true⟩ :: L) (.slice (H.length + 3) 0 (na + nb) (na + nb) 1) U := fun L =>
      ⟨H.length + 3, 0, na + nb, _, by rw [hUl], hget_newL rfl, by omega, fun t ht => by simp [List.getD_eq_getElem?_getD, ht]⟩
    clear hUv hUz
    repeat' first | (with_reducible (show W _ _ _ _ _); with_reducible refine go2 ?_) | (with_reducible (show W _ _ _ _ _); with_reducible refine sg2 ?_ ?_ <;> intro _) | (with_reducible (show W _ _ _ _ _); with_reducible refine sc2 ?_ ?_ <;> intro _) | ((with_reducible (show CallK _ _ _ _ _ _ _ _ _ _ _); with_reducible refine cx2 (trim_spec (hDU []) hUd (by omega) _ (by omega)) ?_))
    intro w C4 hw
    obtain ⟨hO4, s4, sl4, e4, rfl, hN4⟩ := num_trim (K := K + L) hval (by omega) hbound hw
    have ho4 := hN4.one
    have c24 := hO4.getO (hget_newL (i := 2) rfl)
    have hl4 := lt_of_hget c24
    clear hval hbound hw
    repeat' first | (with_reducible (show W _ _ _ _ _); with_reducible refine go2 ?_) | (with_reducible (show W _ _ _ _ _); with_reducible refine sg2 ?_ ?_ <;> intro _) | (with_reducible (show W _ _ _ _ _); with_reducible refine sc2 ?_ ?_ <;> intro _)
    exact ⟨(((Old.refl H).app _).trans hO4).setq _ (by omega), s4, sl4, e4, rfl, hN4.setz c24 _⟩
end Go.Proofs.YtcikcinkjbbnhaaDoor.M
