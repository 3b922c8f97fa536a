/- The small machine, fourth part: all operations that look at no memory. -/
import Derived.Test.YtojppdcbnpinbaaM3
set_option linter.unusedSimpArgs false
set_option linter.unusedVariables false
namespace Go.Proofs.Ytojppdcbnpinbaa.M
open Go

/-- The real operation answers what the small one does, in whatever world. -/
def Ans (P : Program) (o : Oper) (a : Act) (μ : Mu) (v : MV) : Prop := (∀ w, (execOp a.eval o).run P w = .ok (.value (conc μ v)) w) ∧ Ok μ v

theorem conc_lit (μ : Mu) (v : Value) : conc μ (.lit v) = v := by simp [conc]
theorem ok_lit (μ : Mu) (v : Value) : Ok μ (.lit v) := by simp [Ok]

theorem loc_some {μ : Mu} {p : Nat} {l : Loc} (h : μ p = some l) (o : Nat) : loc μ p o = some ⟨l.b, l.off + o, none⟩ := by simp [loc, h]
theorem loc_add {μ : Mu} {p : Nat} {l : Loc} (h : μ p = some l) (o n : Nat) : (⟨l.b, l.off + o, none⟩ : Addr).add n = ⟨l.b, l.off + (o + n), none⟩ := by
  rw [Addr.add_lit]; simp [Nat.add_assoc]

theorem Tm.evs {μ ρ a} (h : Tm μ ρ a) (xs : Array Operand) : (xs.map a.eval) = (concs μ (evs ρ xs)).toArray ∧ Oks μ (evs ρ xs) := by
  constructor
  · apply Array.ext'
    simp only [Array.toList_map, M.evs, concs_map, List.map_map]
    exact List.map_congr_left fun x _ => ((h.ev x).1).symm
  · rw [oks_iff]
    intro v hv
    simp only [M.evs, List.mem_map] at hv
    obtain ⟨x, _, rfl⟩ := hv
    exact (h.ev x).2

theorem foldV_sound {P : Program} {f : MV → MV → Option MV} {g : Value → Value → Sem Value} (hfg : ∀ x y z, f x y = some z → ∀ μ w, (g (conc μ x) (conc μ y)).run P w = .ok (conc μ z) w ∧ Ok μ z) :
    ∀ (xs : List MV) (x z : MV), foldV f x xs = some z → ∀ μ w, Ok μ x → ((concs μ xs).foldlM g (conc μ x)).run P w = .ok (conc μ z) w ∧ Ok μ z
  | [], x, z, h, μ, w, hx => by
    simp only [foldV, Option.some.injEq] at h
    subst h
    simp [concs, hx]
  | y :: ys, x, z, h, μ, w, hx => by
    simp only [foldV, Option.bind_eq_some_iff] at h
    obtain ⟨u, hu, hr⟩ := h
    have h1 := hfg x y u hu μ w
    have h2 := foldV_sound hfg ys u z hr μ w h1.2
    simp only [concs, List.foldlM_cons, Sem.run_bind, h1.1, Result.andThen_ok]
    exact h2

theorem maxM_sound {P : Program} (x y z : MV) (h : maxM x y = some z) (μ : Mu) (w : World) : (Builtin.max2 (conc μ x) (conc μ y)).run P w = .ok (conc μ z) w ∧ Ok μ z := by
  unfold maxM at h
  split at h
  · cases h; simp [conc, Builtin.max2, Ok]
  · cases h
theorem minM_sound {P : Program} (x y z : MV) (h : minM x y = some z) (μ : Mu) (w : World) : (Builtin.min2 (conc μ x) (conc μ y)).run P w = .ok (conc μ z) w ∧ Ok μ z := by
  unfold minM at h
  split at h
  · cases h; simp [conc, Builtin.min2, Ok]
  · cases h

theorem run_places {P : Program} (w : World) : ∀ fs : List Field, (∀ f ∈ fs, (P.info? f.type).isSome = true) →
    ((fs.mapM fun f => do pure (f.offset, ← sizeOf f.type) : Sem (List (Nat × Nat)))).run P w = .ok (fs.map fun f => (f.offset, szOf P f.type)) w
  | [], _ => by simp
  | f :: fs, h => by
    obtain ⟨i, hi⟩ := Option.isSome_iff_exists.1 (h f (List.mem_cons_self ..))
    have ih := run_places (P := P) w fs (fun g hg => h g (List.mem_cons_of_mem _ hg))
    simp only [bind_pure_comp] at ih
    simp [List.mapM_cons, run_sizeOf hi, ih, szOf, hi]

theorem run_sliceBound {P : Program} {k : IntKind} {i : Int} {y : Nat} {c : BoundsCode} (h : 0 ≤ i ∧ i ≤ y) (w : World) : (Instr.sliceBound (.int k i) y c).run P w = .ok i.toNat w := by
  simp [Instr.sliceBound, asIntOf, h]

end Go.Proofs.Ytojppdcbnpinbaa.M
