/- From the small machine to a law's row: a slice of bools. -/
import Derived.Test.YtdbngjlhcjjhbaaGreatDoorJ
set_option linter.unusedSimpArgs false
set_option linter.unusedVariables false
namespace Go.Proofs.YtdbngjlhcjjhbaaGreatDoor.M
open Go Go.Proofs

/-- A row of bools that lies in the memory. -/
def IsRowB (w : World) (a : Option Addr) (len cap : Nat) (zs : List Bool) : Prop :=
  (a = none ∧ len = 0 ∧ cap = 0 ∧ zs = []) ∨
  ∃ x, a = some x ∧ len ≤ cap ∧ cap ≤ maxLen ∧ zs.length = cap ∧ (∀ i, i < zs.length → w.cell? (x.add i) = some (.bool (zs.getD i false)))
theorem IsRowB.of {w : World} {a : Addr} {len cap : Nat} {B : Nat → Bool} (hl : len ≤ cap) (hm : cap ≤ maxLen) (h : ∀ i, i < cap → w.cell? (a.add i) = some (.bool (B i))) : IsRowB w (some a) len cap ((List.range cap).map B) := by
  refine .inr ⟨a, rfl, hl, hm, by simp, fun i hi => ?_⟩
  rw [List.length_map, List.length_range] at hi
  rw [h i hi]
  simp [List.getD_eq_getElem?_getD, hi]
def SlB (H : MH) (v : MV) (xs : List Bool) : Prop := (xs = [] ∧ ∃ a, v = .lit (.slice a 0 0)) ∨
  ∃ p o c ob, v = .slice p o xs.length c 1 ∧ hget H p = some ob ∧ ∀ i, i < xs.length → ob.cells[o + i]? = some (.lit (.bool (xs.getD i false)))
theorem SlB.app {H : MH} {v : MV} {xs : List Bool} (h : SlB H v xs) (L : MH) : SlB (H ++ L) v xs := by
  rcases h with ⟨h1, a, h2⟩ | ⟨p, o, c, ob, h1, h2, h3⟩
  · exact .inl ⟨h1, a, h2⟩
  · refine .inr ⟨p, o, c, ob, h1, ?_, h3⟩
    have := hget_lt h2
    unfold hget at h2 ⊢
    rw [List.getElem?_append_left this]; exact h2
theorem sbArg {μ : Mu} {H : MH} {w : World} (hr : Rel μ H w) (hro : RO H) {a : Option Addr} {len cap : Nat} {zs : List Bool} (hz : IsRowB w a len cap zs) :
    ∃ μ' L v, Mle μ μ' ∧ Rel μ' (H ++ L) w ∧ RO (H ++ L) ∧ conc μ' v = .slice a len cap ∧ Ok μ' v ∧ SlB (H ++ L) v (zs.take len) := by
  rcases hz with ⟨rfl, rfl, rfl, rfl⟩ | ⟨x, rfl, hl, _, hlen, hcell⟩
  · exact ⟨μ, [], .lit (.slice none 0 0), Mle.refl μ, by simpa using hr, by simpa using hro, by simp [conc], by simp [Ok], .inl ⟨by simp, none, rfl⟩⟩
  · rcases Nat.eq_zero_or_pos cap with h0 | h0
    · have h1 : len = 0 := by omega
      subst h1; subst h0
      exact ⟨μ, [], .lit (.slice (some x) 0 0), Mle.refl μ, by simpa using hr, by simpa using hro, by simp [conc], by simp [Ok], .inl ⟨by simp, some x, rfl⟩⟩
    · have c0 := hcell 0 (by omega)
      have e0 : x.add 0 = x := by simp [Addr.add]
      rw [e0] at c0
      unfold World.cell? at c0
      obtain ⟨xb, xo, xs⟩ := x
      simp only at c0
      split at c0
      · rename_i cs t fz hb
        split at c0
        · cases c0
        · rename_i hsp
          simp only [Option.isSome_iff_ne_none, ne_eq, Decidable.not_not] at hsp
          subst hsp
          have hc : ∀ i, i < zs.length → cs[xo + i]? = some (.bool (zs.getD i false)) := by
            intro i hi
            have := hcell i hi
            rw [Addr.add_lit] at this
            simp only [World.cell?, hb] at this
            simpa using this
          have hsz : xo + cap ≤ cs.size := by
            have := hc (cap - 1) (by omega)
            have := (Array.getElem?_eq_some_iff.1 this).1
            omega
          let o : MO := ⟨zs.map fun n => .lit (.bool n), false⟩
          have hun := hr.unbound (Nat.le_refl H.length)
          have hob : ObjAt (bind1 μ H.length ⟨xb, xo, cap⟩) w ⟨xb, xo, cap⟩ o := by
            refine ⟨cs, t, fz, hb, hsz, by simp [o, hlen], by simp [o], fun i v hv => ?_⟩
            simp only [o, List.getElem?_map, Option.map_eq_some_iff] at hv
            obtain ⟨n, hn, rfl⟩ := hv
            have hi := (List.getElem?_eq_some_iff.1 hn).1
            refine ⟨by simp [Ok], ?_⟩
            rw [hc i hi]
            simp [conc, List.getD_eq_getElem?_getD, hn]
          refine ⟨_, [some o], .slice H.length 0 len cap 1, bind1_le hun, hr.push hro rfl hob, hro.push rfl, ?_, ?_, .inr ⟨H.length, 0, cap, o, ?_, hget_append_new, fun i hi => ?_⟩⟩
          · simp [conc, loc, bind1]
          · simp only [Ok]
            exact ⟨hl, ⟨xb, xo, cap⟩, by simp [bind1], by simp⟩
          · rw [List.length_take]
            congr 1
            omega
          · rw [List.length_take] at hi
            have hi2 : i < zs.length := by omega
            have hi3 : i < len := by omega
            simp [o, List.getElem?_map, List.getD_eq_getElem?_getD, List.getElem?_take, hi2, hi3]
      · cases c0
end Go.Proofs.YtdbngjlhcjjhbaaGreatDoor.M
