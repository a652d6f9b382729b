/- The form's own reach at a slice that came in: so many bytes at the most; and its length is no more than its capacity. -/
import Derived.Test.YtgidnkodgdoijaaRows
import Derived.Test.YtgidnkodgdoijaaFrame
import Derived.SizedLaws
namespace Go.Proofs.Ytgidnkodgdoijaa.sizeds
open Go Go.RowKit Go.ChangeShapes Go.WideShapes Go.ChangeAt
theorem len_sized {H : Type} {enc : TypeId × Value → H} {P : Program} {w : World} {t e : TypeId} {a : Option Addr} {len cap b : Nat} {d : DataW H} {p : List MemPlace} {ts : List TypeId} {ds : List (DataW H)} {j : Nat}
    (ht : P.underlying t = some (.slice e)) (hb : P.bytesOf e = b) (h : DataW.Trod enc P w 0 (fun _ => true) true t (.slice a len cap) d p)
    (hsz : (DataW.weightsEach P ts ds).all (· ≤ reachBytes) = true) (hts : ts[j]? = some t) (hds : ds[j]? = some d) : len * b ≤ reachBytes ∧ len ≤ cap := by
  obtain ⟨fuel, hf⟩ := h
  rcases DataW.trod_slice ht hf with ⟨hcs, _⟩ | ⟨x, l, c, elems, rest, n, _, hcs, hx, _, hlc, _, hlen, _⟩
  · simp only [Value.cells, List.cons.injEq, Value.slice.injEq, and_true] at hcs
    obtain ⟨_, rfl, rfl⟩ := hcs
    simp
  · simp only [Value.cells, List.cons.injEq, Value.slice.injEq, and_true] at hcs
    obtain ⟨_, rfl, rfl⟩ := hcs
    injection hx with hd _
    rw [hd] at hds
    have := sized_slice hsz hts hds ht
    rw [hb, List.length_map, List.length_map, hlen] at this
    exact ⟨Nat.le_trans (Nat.mul_le_mul_right b (Nat.le_add_right _ _)) this, hlc⟩
end Go.Proofs.Ytgidnkodgdoijaa.sizeds
