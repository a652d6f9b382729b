/- An argument that is a response, opened. -/
import Derived.Test.YtgidnkodgdoijaaDoorUpto
import Derived.Lib.SmallJoins
namespace Go.Proofs.YtgidnkodgdoijaaDoor.bulks
open Go Go.RowKit Go.ChangeShapes Go.WideShapes Go.ChangeAt
set_option linter.unusedVariables false
theorem i64_bd {n : Int} (h : (Lit.int .i64 n).wf = true) : -9223372036854775808 ≤ n ∧ n ≤ 9223372036854775807 := by
  have e1 : IntKind.i64.min = -9223372036854775808 := rfl
  have e2 : IntKind.i64.max = 9223372036854775807 := rfl
  simp only [Lit.wf, e1, e2, Bool.and_eq_true, decide_eq_true_eq] at h
  exact h
theorem cE : Tryd.prog.cellsOf 22 = 1 := by kernel_rfl
theorem cI : Tryd.prog.cellsOf 3 = 1 := by kernel_rfl
theorem cS : Tryd.prog.cellsOf 9 = 1 := by kernel_rfl
theorem cR : Tryd.prog.cellsOf 24 = 4 := by kernel_rfl
theorem cW : Tryd.prog.cellsOf 26 = 8 := by kernel_rfl
theorem open_resp {H : Type} {enc : TypeId × Value → H} {w : World} {base : Nat} {v : Value} {d : DataW H} {p : List MemPlace} (hv : Value.okWide Tryd.prog w .any base 26 v)
    (h : DataW.Trod enc Tryd.prog w 0 (fun _ => true) true 26 v d p) :
    ∃ (er att st ow dl tk : Int) (nm rn : ByteArray), v = .agg #[.int .i64 er, .int .i64 att, .string nm, .int .i64 st, .int .i64 ow, .string rn, .int .i64 dl, .int .i64 tk] ∧
      ((-9223372036854775808 ≤ er ∧ er ≤ 9223372036854775807) ∧ (-9223372036854775808 ≤ att ∧ att ≤ 9223372036854775807) ∧ (-9223372036854775808 ≤ ow ∧ ow ≤ 9223372036854775807) ∧ (-9223372036854775808 ≤ dl ∧ dl ≤ 9223372036854775807) ∧ (-9223372036854775808 ≤ tk ∧ tk ≤ 9223372036854775807)) ∧
      nm.size ≤ Rows.uptoBulk d ∧ rn.size ≤ Rows.uptoBulk d := by
  obtain ⟨cs, rfl, hsz⟩ := okWide_struct Tryd.underlying26 hv
  rw [cW] at hsz
  obtain ⟨l⟩ := cs
  match l, hsz with
  | [c0, c1, c2, c3, c4, c5, c6, c7], _ =>
    obtain ⟨fuel, hf⟩ := h
    obtain ⟨xs, n, _, hx, _, hlen, hg⟩ := DataW.trod_struct Tryd.underlying26 hf
    match xs, hlen with
    | [y0, y1, y2, y3, y4], _ =>
      have g0 : DataW.trod enc Tryd.prog w 0 (fun _ => true) true n 22 (List.take (Tryd.prog.cellsOf 22) (List.drop 0 [c0, c1, c2, c3, c4, c5, c6, c7])) = some y0 := hg 0 _ rfl
      have g1 : DataW.trod enc Tryd.prog w 0 (fun _ => true) true n 3 (List.take (Tryd.prog.cellsOf 3) (List.drop 1 [c0, c1, c2, c3, c4, c5, c6, c7])) = some y1 := hg 1 _ rfl
      have g2 : DataW.trod enc Tryd.prog w 0 (fun _ => true) true n 9 (List.take (Tryd.prog.cellsOf 9) (List.drop 2 [c0, c1, c2, c3, c4, c5, c6, c7])) = some y2 := hg 2 _ rfl
      have g3 : DataW.trod enc Tryd.prog w 0 (fun _ => true) true n 24 (List.take (Tryd.prog.cellsOf 24) (List.drop 3 [c0, c1, c2, c3, c4, c5, c6, c7])) = some y3 := hg 3 _ rfl
      have g4 : DataW.trod enc Tryd.prog w 0 (fun _ => true) true n 3 (List.take (Tryd.prog.cellsOf 3) (List.drop 7 [c0, c1, c2, c3, c4, c5, c6, c7])) = some y4 := hg 4 _ rfl
      rw [cE] at g0; rw [cI] at g1 g4; rw [cS] at g2; rw [cR] at g3
      obtain ⟨er, h0, _, b0⟩ := DataW.trod_int Tryd.underlying22 g0
      obtain ⟨att, h1, _, b1⟩ := DataW.trod_int Tryd.underlying3 g1
      obtain ⟨nm, h2, z2, _⟩ := DataW.trod_string Tryd.underlying9 g2
      obtain ⟨tk, h7, _, b7⟩ := DataW.trod_int Tryd.underlying3 g4
      obtain ⟨zs, m, _, hz, _, hlen2, hk⟩ := DataW.trod_struct Tryd.underlying24 g3
      match zs, hlen2 with
      | [u0, u1, u2, u3], _ =>
        have k0 : DataW.trod enc Tryd.prog w 0 (fun _ => true) true m 3 (List.take (Tryd.prog.cellsOf 3) (List.drop 0 (List.take 4 (List.drop 3 [c0, c1, c2, c3, c4, c5, c6, c7])))) = some u0 := hk 0 _ rfl
        have k1 : DataW.trod enc Tryd.prog w 0 (fun _ => true) true m 3 (List.take (Tryd.prog.cellsOf 3) (List.drop 1 (List.take 4 (List.drop 3 [c0, c1, c2, c3, c4, c5, c6, c7])))) = some u1 := hk 1 _ rfl
        have k2 : DataW.trod enc Tryd.prog w 0 (fun _ => true) true m 9 (List.take (Tryd.prog.cellsOf 9) (List.drop 2 (List.take 4 (List.drop 3 [c0, c1, c2, c3, c4, c5, c6, c7])))) = some u2 := hk 2 _ rfl
        have k3 : DataW.trod enc Tryd.prog w 0 (fun _ => true) true m 3 (List.take (Tryd.prog.cellsOf 3) (List.drop 3 (List.take 4 (List.drop 3 [c0, c1, c2, c3, c4, c5, c6, c7])))) = some u3 := hk 3 _ rfl
        rw [cI] at k0 k1 k3; rw [cS] at k2
        obtain ⟨st, h3, _, b3⟩ := DataW.trod_int Tryd.underlying3 k0
        obtain ⟨ow, h4, _, b4⟩ := DataW.trod_int Tryd.underlying3 k1
        obtain ⟨rn, h5, z5, _⟩ := DataW.trod_string Tryd.underlying9 k2
        obtain ⟨dl, h6, _, b6⟩ := DataW.trod_int Tryd.underlying3 k3
        simp only [Value.cells, List.drop, List.take, List.cons.injEq, and_true] at h0 h1 h2 h3 h4 h5 h6 h7
        subst h0; subst h1; subst h2; subst h3; subst h4; subst h5; subst h6; subst h7
        have e2 : y2.1 = .lit (.string nm.data.toList) := congrArg Prod.fst z2
        have e5 : u2.1 = .lit (.string rn.data.toList) := congrArg Prod.fst z5
        have ed : d = .agg [y0.1, y1.1, y2.1, y3.1, y4.1] := congrArg Prod.fst hx
        have e3 : y3.1 = .agg [u0.1, u1.1, u2.1, u3.1] := congrArg Prod.fst hz
        have n2 : nm.size = nm.data.toList.length := rfl
        have n5 : rn.size = rn.data.toList.length := rfl
        refine ⟨er, att, st, ow, dl, tk, nm, rn, rfl, ⟨i64_bd b0, i64_bd b1, i64_bd b4, i64_bd b6, i64_bd b7⟩, ?_, ?_⟩
        · have := part_le (d := y2.1) (l := [y0.1, y1.1, y2.1, y3.1, y4.1]) (by simp)
          rw [e2] at this
          rw [ed, n2]
          simp only [Rows.uptoBulk] at this ⊢
          rw [e2]
          omega
        · have h1 := part_le (d := y3.1) (l := [y0.1, y1.1, y2.1, y3.1, y4.1]) (by simp)
          have h2 := part_le (d := u2.1) (l := [u0.1, u1.1, u2.1, u3.1]) (by simp)
          rw [e3] at h1
          rw [e5] at h2
          rw [ed, n5]
          simp only [Rows.uptoBulk] at h1 h2 ⊢
          rw [e5] at h1
          rw [e3]
          try simp only [Rows.uptoBulk] at h1 h2 ⊢
          try rw [e5]
          try simp only [Rows.uptoBulk] at h1 h2 ⊢
          omega
end Go.Proofs.YtgidnkodgdoijaaDoor.bulks
