/- The Go function towncrierlaw25.AuditParts answers true at every input, and writes nothing that was there. -/
import Derived.Test.YtmjedjhgomlfiaaWithin
namespace Go.Proofs.Ytmjedjhgomlfiaa
open Go.RowKit Go.Proofs.YtmjedjhgomlfiaaW.PrintWords

theorem pairs_of_cells {w : World} {ad : Addr} {xs : List (Int × Int)} (hl : xs.length ≤ 9223372036854775807)
    (h : ∀ j x, xs[j]? = some x → w.cell? (ad.add (j * 2)) = some (.int .i64 x.1) ∧ w.cell? (ad.add (j * 2 + 1)) = some (.int .i64 x.2)) : kPair.C w (some ad) xs.length xs := by
  refine ⟨rfl, hl, fun _ => ⟨ad, rfl, fun j p hp => ?_⟩⟩
  obtain ⟨h0, h1⟩ := h j p hp
  refine ⟨[.int .i64 p.1, .int .i64 p.2], rfl, ⟨[.int .i64 p.1], [.int .i64 p.2], rfl, rfl, rfl⟩, fun i u hu => ?_⟩
  match i, hu with
  | 0, hu => simp at hu; subst hu; exact h0
  | 1, hu => simp at hu; subst hu; exact h1
  | i + 2, hu => simp at hu

theorem awake_any (w : World) : Calls Try.prog 6 #[] w fun e w' => e = .returned (.bool true) ∧ Below w.heap.size w w' := by
  have h1 : kPair.C ((w.alloc (.cells #[.int .i64 1, .int .i64 1] 24)).alloc (.cells #[.int .i64 2, .int .i64 2, .int .i64 1, .int .i64 1] 24)) (some ⟨w.heap.size, 0, none⟩) [((1 : Int), (1 : Int))].length [(1, 1)] := by
    refine pairs_of_cells (by decide) fun j x hx => ?_
    match j, hx with
    | 0, hx => simp at hx; subst hx; simp [Addr.add]
    | j + 1, hx => simp at hx
  have h2 : kPair.C ((w.alloc (.cells #[.int .i64 1, .int .i64 1] 24)).alloc (.cells #[.int .i64 2, .int .i64 2, .int .i64 1, .int .i64 1] 24)) (some ⟨w.heap.size + 1, 0, none⟩) [((2 : Int), (2 : Int)), (1, 1)].length [(2, 2), (1, 1)] := by
    refine pairs_of_cells (by decide) fun j x hx => ?_
    match j, hx with
    | 0, hx => simp at hx; subst hx; simp [Addr.add]
    | 1, hx => simp at hx; subst hx; simp [Addr.add]
    | j + 2, hx => simp at hx
  have hc := within_any [(1, 1)] [(2, 2), (1, 1)] _ _ 1 2 _ h1 h2 (by decide) (by decide) (by decide)
  rw [show within [(1, 1)] [(2, 2), (1, 1)] = true from by decide] at hc
  have HC := hide_ hc
  clear hc h1 h2
  go_enter Try.func6, Try.ntmps6
  go_wp2_with fail
  refine (HC.out).mono ?_
  rintro e w' ⟨rfl, hB⟩
  go_wp2
  go_ret
  exact ⟨rfl, below_then ((below_alloc (below_alloc (Below.refl _ _) _) _)) (by simp; omega) hB⟩

end Go.Proofs.Ytmjedjhgomlfiaa
