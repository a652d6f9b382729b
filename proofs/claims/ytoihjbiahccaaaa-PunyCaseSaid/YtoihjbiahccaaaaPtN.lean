/- The walk of the points of the laws on Punycode. -/
import Derived.Test.YtoihjbiahccaaaaPnAw
import Derived.Deep.RegionHeld3
import Derived.Deep.CutBlock
namespace Go.Proofs.Ytoihjbiahccaaaa
open Go Go.RowKit
set_option linter.unusedVariables false

/-- A point before it is mended, and where the source stands behind it. -/
def Pn.ptv (xs : List Int) (i : Nat) : Int :=
  if Kp.nx xs i 4 = 0 then Kp.nx xs (Kp.ad xs i) 128 else if Kp.nx xs i 4 = 1 then 128 + Kp.nx xs (Kp.ad xs i) 600
  else if Kp.nx xs i 4 = 2 then [19968, 44032, 55295, 57344, 65535].getD (Kp.nx xs (Kp.ad xs i) 5).toNat 0 + Kp.nx xs (Kp.ad xs (Kp.ad xs i)) 2 else 65536 + Kp.nx xs (Kp.ad xs i) 1048576
def Pn.ptp (xs : List Int) (i : Nat) : Nat := if Kp.nx xs i 4 = 2 then Kp.ad xs (Kp.ad xs (Kp.ad xs i)) else Kp.ad xs (Kp.ad xs i)
def Pn.fix (c : Int) : Int := if Pn.scalar c then c else 128
def Pn.lpS (xs : List Int) : Nat → Nat × List Int
  | 0 => (Kp.ad xs 0, [])
  | k + 1 => (Pn.ptp xs (Pn.lpS xs k).1, (Pn.lpS xs k).2 ++ [Pn.fix (Pn.ptv xs (Pn.lpS xs k).1)])
def Pn.lpN (xs : List Int) : Nat := (Kp.nx xs 0 12).toNat
/-- What points returns. -/
def Pn.lp (xs : List Int) : List Int := (Pn.lpS xs (Pn.lpN xs)).2
theorem Pn.lpS_len (xs : List Int) : ∀ k, (Pn.lpS xs k).2.length = k
  | 0 => rfl
  | k + 1 => by simp [Pn.lpS, Pn.lpS_len xs k]
theorem Pn.fix_scalar (c : Int) : Pn.scalar (Pn.fix c) = true := by
  unfold Pn.fix
  cases h : Pn.scalar c
  · simp; decide
  · simp [h]
theorem Pn.lpS_scalar (xs : List Int) : ∀ k, ∀ c ∈ (Pn.lpS xs k).2, Pn.scalar c = true
  | 0, c, h => by simp [Pn.lpS] at h
  | k + 1, c, h => by
    simp only [Pn.lpS, List.mem_append, List.mem_singleton] at h
    rcases h with h | rfl
    · exact Pn.lpS_scalar xs k c h
    · exact Pn.fix_scalar _
theorem Pn.lpN_le (xs : List Int) : Pn.lpN xs ≤ 11 := by
  have := Kp.nx_lo xs 0 12 (by omega); have := Kp.nx_hi xs 0 12 (by omega); unfold Pn.lpN; omega
theorem Pn.lpN_eq (xs : List Int) : Kp.nx xs 0 12 = (Pn.lpN xs : Int) := by
  have := Kp.nx_lo xs 0 12 (by omega); unfold Pn.lpN; omega
theorem Pn.lp_len (xs : List Int) : (Pn.lp xs).length ≤ 11 := by unfold Pn.lp; rw [Pn.lpS_len]; exact Pn.lpN_le xs
theorem Pn.lp_scalar (xs : List Int) : ∀ c ∈ Pn.lp xs, Pn.scalar c = true := Pn.lpS_scalar xs _
/-- The last number of a row of the call's own, written anew. -/
theorem own_last {w : World} {base n c : Nat} {e : TypeId} {A : Option Addr} {L : List Int} {v : Int} (h : w.ownsRow base e 1 (.slice A (n + 1) c) (n + 1) (ints (L ++ [v]))) (hL : L.length = n) :
    ∃ g, A = some ⟨g, 0, none⟩ ∧ base ≤ g ∧ g < w.heap.size ∧ w.cell? ⟨g, n, none⟩ = some (.int .i64 v) ∧ w.frozen? ⟨g, n, none⟩ = false ∧
      ∀ u : Int, (w.setCell ⟨g, n, none⟩ (.int .i64 u)).ownsRow base e 1 (.slice A (n + 1) c) (n + 1) (ints (L ++ [u])) := by
  rcases h.2 with ⟨_, h0⟩ | ⟨g, cap, cur, hv, hb, hh, hnc, hcm, hcs, _⟩
  · omega
  · injection hv with e1 e2 e3
    subst e1; subst e3
    have hc := fun j u hu => h.cells (g := g) rfl j u hu
    have hlast := hc n (.int .i64 v) (by rw [ints_at, List.getElem?_append_right (by omega), hL, Nat.sub_self]; rfl)
    rw [addp, Nat.zero_add] at hlast
    refine ⟨g, rfl, hb, (Array.getElem?_eq_some_iff.1 hh).1, hlast, Bk.frozen (w := w) (g := g) (t := e) (cs := cur) hh n, fun u => ?_⟩
    have h1 : Bk (w.setCell ⟨g, n, none⟩ (.int .i64 u)) g e (cur.setIfInBounds n (.int .i64 u)) := Bk.set_ (w := w) (g := g) (t := e) (cs := cur) hh n (.int .i64 u)
    refine own_of_cells hb h1 hnc hcm (by simp; omega) (by rw [ints_length]; simp; omega) ?_
    intro j x hj
    by_cases hjn : j = n
    · subst hjn
      rw [ints_at, List.getElem?_append_right (by omega), hL, Nat.sub_self] at hj
      rw [World.cell?_setCell_same _ _ _ hlast]
      exact hj
    · have hjl := (List.getElem?_eq_some_iff.1 hj).1
      rw [ints_length] at hjl
      simp at hjl
      rw [World.cell?_setCell_other _ _ _ _ (by intro e; injection e; omega)]
      have := hc j x (by rw [← hj, ints_at, ints_at, List.getElem?_append_left (by omega), List.getElem?_append_left (by omega)])
      rwa [addp, Nat.zero_add] at this
/-- append(out, ys...) at []int, at a step of a region that draws its order. -/
theorem step_app_int {w : World} {ops : Array Oper} {o : Oper} {a : Act} {K : Act → World → Prop} {Q : Exit → Act → World → Prop} {E : Prop} (hgd : o.guard = none) (s x : Operand)
    (ho : o.op = .call { callee := .builtin .append, args := #[s, x], argTypes := #[22, 22] })
    {base : Nat} {v : Value} {n : Nat} {xs : List Int} (hs : a.eval s = v) (hown : w.ownsRow base 3 1 v n (ints xs))
    {B : Nat} {A : Option Addr} {m c : Nat} {ys : List Int} (hx : a.eval x = .slice A m c) (hr : Rd w B 1 A m (ints ys))
    (hlen : n + m ≤ 5000000000000) (hbase : base ≤ w.heap.size)
    (h : ∀ A' c' w', w'.ownsRow base 3 1 (.slice A' (n + m) c') (n + m) (ints (xs ++ ys)) → w.grownBy w' v.ownBlock → K (a.put o.dst (.slice A' (n + m) c')) w') :
    if Region.wanted o (yielded ops a.tmps) = true then Oper.wp Try.prog o a w K Q else E := by
  have hw : Region.wanted o (yielded ops a.tmps) = true := by simp [Region.wanted, hgd]
  rw [if_pos hw]
  obtain ⟨i0, hi, hz0, hz1, hz2⟩ := info_parts info_int
  obtain ⟨v', w', hrun, h2, h3, h4⟩ := run_app (P := Try.prog) base 22 o.type 3 i0 (.int .i64 0) 1 8 Try.underlying22 hi hz0 hz1 hz2 rfl (by decide) v n (ints xs) hown B A m c (ints ys) hr (ints_one ys)
    (by unfold maxLen; omega) (by omega) hbase
  obtain ⟨A', c', rfl⟩ := own_form h2
  rw [← ints_append] at h2
  unfold Oper.wp execOp
  simp only [ho, resolve, invoke, builtin, Sem.run_bind, Sem.run_pure, Result.andThen_ok, List.map_toArray, List.map_cons, List.map_nil, hs, hx, hrun]
  exact h A' c' w' h2 h3
theorem lit5_at (m : Nat) (h : m < 5) : (#[.int .i64 19968, .int .i64 44032, .int .i64 55295, .int .i64 57344, .int .i64 65535] : Array Value)[m]? = some (.int .i64 (([19968, 44032, 55295, 57344, 65535] : List Int).getD m 0)) := by
  have : m = 0 ∨ m = 1 ∨ m = 2 ∨ m = 3 ∨ m = 4 := by omega
  rcases this with rfl | rfl | rfl | rfl | rfl <;> rfl
theorem lit5_bd (m : Nat) (h : m < 5) : 0 ≤ ([19968, 44032, 55295, 57344, 65535] : List Int).getD m 0 ∧ ([19968, 44032, 55295, 57344, 65535] : List Int).getD m 0 ≤ 65535 := by
  have : m = 0 ∨ m = 1 ∨ m = 2 ∨ m = 3 ∨ m = 4 := by omega
  rcases this with rfl | rfl | rfl | rfl | rfl <;> decide
theorem own_kept {w w' : World} {g : Nat} {e : TypeId} {A : Option Addr} {k c : Nat} {L : List Int} (h : w.ownsRow (g + 1) e 1 (.slice A k c) k (ints L)) (hg : w.grownBy w' (some g)) : w'.ownsRow (g + 1) e 1 (.slice A k c) k (ints L) :=
  h.kept hg (by
    cases hob : (Value.slice A k c).ownBlock with
    | none => exact .inl rfl
    | some q => have := (h.lt q hob).1; exact .inr (by intro e; injection e; omega))
theorem below_kept {g : Nat} {W w w' : World} (h : Below g W w) (hg : w.grownBy w' (some g)) (hs : g ≤ w.heap.size) : Below g W w' := h.grown hg hs (fun k hk => by injection hk; omega)
def PtMid (g : Nat) (w : World) (A0 : Option Addr) (n c k : Nat) (L : List Int) (v : Int) (p : Nat) (vo : Value) (wx : World) : Prop :=
  ∃ A c', vo = .slice A (k + 1) c' ∧ wx.ownsRow (g + 1) 3 1 (.slice A (k + 1) c') (k + 1) (ints (L ++ [v])) ∧ Src wx g A0 n c p ∧ Below g w wx
theorem PtMid.put {g : Nat} {w : World} {A0 : Option Addr} {n c k : Nat} {L : List Int} {v : Int} {p : Nat} {A : Option Addr} {c' : Nat} {wa w' : World} {o : Obj} {A4 : Option Addr} {c4 : Nat}
    (ho : wa.ownsRow (g + 1) 3 1 (.slice A k c') k (ints L)) (hs : Src wa g A0 n c p) (hb : Below g w wa) (hgw : g ≤ wa.heap.size)
    (ho4 : w'.ownsRow (g + 1) 3 1 (.slice A4 (k + 1) c4) (k + 1) (ints (L ++ [v]))) (hg : (wa.alloc o).grownBy w' (Value.slice A k c').ownBlock) : PtMid g w A0 n c k L v p (.slice A4 (k + 1) c4) w' := by
  refine ⟨A4, c4, rfl, ho4, ?_, ?_⟩
  · exact Bk.grown (Bk.alloc hs o) hg (by intro e; have := (ho.lt g e.symm).1; omega)
  · exact (hb.alloc hgw o).grown hg (by simp; omega) (fun q h => by have := (ho.lt q h).1; omega)
/-- The state while a point is made: the source at i, the row made so far. -/
def PtS (g : Nat) (w0 : World) (A : Option Addr) (xs : List Int) (c : Nat) (v : Value) (k : Nat) (L : List Int) (i : Nat) (w : World) : Prop :=
  Src w g A xs.length c i ∧ Rd w g 1 A xs.length (ints xs) ∧ w.ownsRow (g + 1) 3 1 v k (ints L) ∧ Below g w0 w ∧ g < w.heap.size
theorem PtS.alloc {g : Nat} {w0 : World} {A : Option Addr} {xs : List Int} {c : Nat} {v : Value} {k : Nat} {L : List Int} {i : Nat} {w : World} (h : PtS g w0 A xs c v k L i w) (o : Obj) : PtS g w0 A xs c v k L i (w.alloc o) := by
  obtain ⟨h1, h2, h3, h4, h5⟩ := h
  exact ⟨Bk.alloc h1 o, h2.alloc (by omega) o, h3.alloc o, h4.alloc (by omega) o, by simp; omega⟩
theorem PtS.drew {g : Nat} {w0 : World} {A : Option Addr} {xs : List Int} {c : Nat} {v : Value} {k : Nat} {L : List Int} {i : Nat} {w : World} (h : PtS g w0 A xs c v k L i w) : PtS g w0 A xs c v k L i w.drew := by
  obtain ⟨h1, h2, h3, h4, h5⟩ := h
  exact ⟨Bk.drew h1, h2.drew, World.ownsRow.drew h3, Below.drew h4, h5⟩
theorem PtS.next {g : Nat} {w0 : World} {A : Option Addr} {xs : List Int} {c : Nat} {A' : Option Addr} {c' : Nat} {k : Nat} {L : List Int} {i : Nat} {w : World} (h : PtS g w0 A xs c (.slice A' k c') k L i w) (m : Int) (h1 : 1 ≤ m) (h2 : m ≤ 9223372036854775807) (hl : xs.length ≤ maxLen) :
    Calls Try.prog 42 #[.pointer (some ⟨g, 0, none⟩), .int .i64 m] w fun e w' => e = .returned (.int .i64 (Kp.nx xs i m)) ∧ PtS g w0 A xs c (.slice A' k c') k L (Kp.ad xs i) w' ∧ w.grownBy w' (some g) := by
  obtain ⟨k1, k2, k3, k4, k5⟩ := h
  refine (next_any g A c xs i m h1 h2 g w k1 k2 (Nat.le_refl g) hl).mono ?_
  rintro e w' ⟨he, hs, hg⟩
  exact ⟨he, ⟨hs, k2.grown hg (by omega) (fun q hq => by injection hq; omega), own_kept k3 hg, below_kept k4 hg (by omega), by have := hg.size; omega⟩, hg⟩
set_option maxRecDepth 100000 in
set_option maxHeartbeats 16000000 in
theorem points_any (A : Option Addr) (c : Nat) (xs : List Int) (w : World) (hr : Rd w w.heap.size 1 A xs.length (ints xs)) (hl : xs.length ≤ maxLen) :
    Calls Try.prog 18 #[.slice A xs.length c] w (RetI 3 (Pn.lp xs) w) := by
  have HR := Lib.hid hr; have HL := Lib.hid hl; clear hr hl
  have hN := Pn.lpN_eq xs
  have hN11 := Pn.lpN_le xs
  have hp : Pn.lp xs = (Pn.lpS xs (Pn.lpN xs)).2 := rfl
  generalize Pn.lpN xs = N at *
  have HP := Lib.hid hp; have HN := Lib.hid hN
  clear hN hp
  go_enter Try.func18, Try.ntmps18
  go_wp2_with fail
  refine (from_any _ _ _ _).mono ?_
  rintro e w1 ⟨rfl, hw1⟩
  have hs1 := src_new w A xs.length c
  have hsz1 : w1.heap.size = w.heap.size + 1 := by rw [← hw1]; simp
  have hb1 : Below w.heap.size w w1 := by rw [← hw1]; exact (Below.refl w.heap.size w).alloc (Nat.le_refl _) _
  rw [hw1] at hs1
  generalize hg : w.heap.size = g at *
  have HG := Lib.hid hg; clear hg
  have HS1 := Lib.hid hs1; have HB1 := Lib.hid hb1; clear hs1 hb1 hw1
  go_wp2_with fail
  refine (next_any _ _ _ _ _ 12 (by omega) (by omega) g _ HS1.out (HR.out.below HB1.out) (by omega) HL.out).mono ?_
  rintro e w2 ⟨rfl, hs2, hg2⟩
  have hsz2 := hg2.size
  have HB2 := Lib.hid (HB1.out.grown hg2 (by omega) (fun k hk => by injection hk; omega))
  have HS2 := Lib.hid hs2; clear hs2 hg2
  rw [HN.out]
  go_wp2_with fail
  go_loopw [4, 5] (fun vo i wr => ∃ (k : Nat) (Ao : Option Addr) (co : Nat), k ≤ N ∧ i = .int .i64 ((N - k : Nat) : Int) ∧ vo = .slice Ao k co ∧
      wr.ownsRow (g + 1) 3 1 (.slice Ao k co) k (ints (Pn.lpS xs k).2) ∧ Src wr g A xs.length c (Pn.lpS xs k).1 ∧ Below g w wr) (fun _ i _ => (intOf i).toNat)
  case atStart => exact ⟨0, none, 0, by omega, rfl, rfl, World.ownsRow_nil _ _ _ _, HS2.out, HB2.out⟩
  case round =>
    obtain ⟨k, Ao, co, hk, rfl, rfl, ho, hs, hb⟩ := hrel
    have HO := Lib.hid ho; have HS := Lib.hid hs; have HB := Lib.hid hb
    have hgs : g < wr.heap.size := hs.lt
    clear ho hs hb
    by_cases hlt : k < N
    · have hpos : (0 : Int) < ((N - k : Nat) : Int) := by omega
      have hstep : Pn.lpS xs (k + 1) = (Pn.ptp xs (Pn.lpS xs k).1, (Pn.lpS xs k).2 ++ [Pn.fix (Pn.ptv xs (Pn.lpS xs k).1)]) := rfl
      have hll := Pn.lpS_len xs k
      have HST := Lib.hid hstep; have HLL := Lib.hid hll; clear hstep hll
      generalize (Pn.lpS xs k).2 = L at *
      generalize (Pn.lpS xs k).1 = i at *
      have hpv : Pn.ptv xs i = if Kp.nx xs i 4 = 0 then Kp.nx xs (Kp.ad xs i) 128 else if Kp.nx xs i 4 = 1 then 128 + Kp.nx xs (Kp.ad xs i) 600
        else if Kp.nx xs i 4 = 2 then [19968, 44032, 55295, 57344, 65535].getD (Kp.nx xs (Kp.ad xs i) 5).toNat 0 + Kp.nx xs (Kp.ad xs (Kp.ad xs i)) 2 else 65536 + Kp.nx xs (Kp.ad xs i) 1048576 := rfl
      have hpp : Pn.ptp xs i = if Kp.nx xs i 4 = 2 then Kp.ad xs (Kp.ad xs (Kp.ad xs i)) else Kp.ad xs (Kp.ad xs i) := rfl
      have x0 := Kp.nx_lo xs i 4 (by omega); have x1 := Kp.nx_hi xs i 4 (by omega)
      go_wp2_with fail
      refine (next_any g A c xs i 4 (by omega) (by omega) g _ HS.out (HR.out.below HB.out) (by omega) HL.out).mono ?_
      rintro e w4 ⟨rfl, hs4, hg4⟩
      have hsz4 := hg4.size
      have HS4 := Lib.hid hs4
      have HB4 := Lib.hid (HB.out.grown hg4 (by omega) (fun k hk => by injection hk; omega))
      have HO4 := Lib.hid (HO.out.kept hg4 (by
        cases hob : (Value.slice Ao k co).ownBlock with
        | none => exact .inl rfl
        | some q => have := (HO.out.lt q hob).1; exact .inr (by intro e; injection e; omega)))
      clear hs4 hg4 HO HB HS
      generalize Kp.nx xs i 4 = K at *
      have HPV := Lib.hid hpv; have HPP := Lib.hid hpp
      clear hpv hpp
      have hgw4 : g < w4.heap.size := by omega
      have hnb : ∀ q, (Value.slice Ao k co).ownBlock = some q → g + 1 ≤ q := fun q hq => (HO4.out.lt q hq).1
      have HNB := Lib.hid hnb; clear hnb
      go_upto_block 2 with fail
      go_cut [4] (fun vo wx => PtMid g w A xs.length c k L (Pn.ptv xs i) (Pn.ptp xs i) vo wx)
      case first =>
        have hK : K = 0 ∨ K = 1 ∨ K = 2 ∨ K = 3 := by omega
        clear x0 x1
        rcases hK with rfl | rfl | rfl | rfl
        · have hv : Pn.ptv xs i = Kp.nx xs (Kp.ad xs i) 128 := HPV.out
          have hq : Pn.ptp xs i = Kp.ad xs (Kp.ad xs i) := HPP.out
          have HV := Lib.hid hv; have HQ := Lib.hid hq; clear hv hq
          go_wp2_with fail
          refine (next_any g A c xs (Kp.ad xs i) 128 (by omega) (by omega) g _ HS4.out (HR.out.below HB4.out) (by omega) HL.out).mono ?_
          rintro e w5 ⟨rfl, hs5, hg5⟩
          have hsz5 := hg5.size
          have HS5 := Lib.hid hs5
          have HB5 := Lib.hid (HB4.out.grown hg5 (by omega) (fun k hk => by injection hk; omega))
          have HO5 := Lib.hid (HO4.out.kept hg5 (by
            cases hob : (Value.slice Ao k co).ownBlock with
            | none => exact .inl rfl
            | some q => have := HNB.out q hob; exact .inr (by intro e; injection e; omega)))
          clear hs5 hg5
          generalize Kp.nx xs (Kp.ad xs i) 128 = v at *
          go_wp2_with (at_builtin; refine app_int (by rfl) _ _ rfl (base := g + 1) rfl (HO5.out.alloc _) rfl (rd_one_int (z := w5.heap.size) rfl v) (by omega) (by simp <;> omega) ?_)
          intro A6 c6 w6 ho6 hg6 hc6
          have HPM := Lib.hid (PtMid.put HO5.out HS5.out HB5.out (by omega) ho6 hg6)
          clear ho6 hg6 hc6
          go_wp2
          go_meet
          case rel => rw [HV.out, HQ.out]; exact HPM.out
        · have hv : Pn.ptv xs i = 128 + Kp.nx xs (Kp.ad xs i) 600 := HPV.out
          have hq : Pn.ptp xs i = Kp.ad xs (Kp.ad xs i) := HPP.out
          have HV := Lib.hid hv; have HQ := Lib.hid hq; clear hv hq
          go_wp2_with fail
          refine (next_any g A c xs (Kp.ad xs i) 600 (by omega) (by omega) g _ HS4.out (HR.out.below HB4.out) (by omega) HL.out).mono ?_
          rintro e w5 ⟨rfl, hs5, hg5⟩
          have hsz5 := hg5.size
          have HS5 := Lib.hid hs5
          have HB5 := Lib.hid (HB4.out.grown hg5 (by omega) (fun k hk => by injection hk; omega))
          have HO5 := Lib.hid (HO4.out.kept hg5 (by
            cases hob : (Value.slice Ao k co).ownBlock with
            | none => exact .inl rfl
            | some q => have := HNB.out q hob; exact .inr (by intro e; injection e; omega)))
          clear hs5 hg5
          have v0 := Kp.nx_lo xs (Kp.ad xs i) 600 (by omega); have v1 := Kp.nx_hi xs (Kp.ad xs i) 600 (by omega)
          generalize Kp.nx xs (Kp.ad xs i) 600 = v at *
          go_wp2_with (at_builtin; refine app_int (by rfl) _ _ rfl (base := g + 1) rfl (HO5.out.alloc _) rfl (rd_one_int (z := w5.heap.size) rfl (128 + v)) (by omega) (by simp <;> omega) ?_)
          intro A6 c6 w6 ho6 hg6 hc6
          have HPM := Lib.hid (PtMid.put HO5.out HS5.out HB5.out (by omega) ho6 hg6)
          clear ho6 hg6 hc6
          go_wp2
          go_meet
          case rel => rw [HV.out, HQ.out]; exact HPM.out
        · have hv : Pn.ptv xs i = [19968, 44032, 55295, 57344, 65535].getD (Kp.nx xs (Kp.ad xs i) 5).toNat 0 + Kp.nx xs (Kp.ad xs (Kp.ad xs i)) 2 := HPV.out
          have hq : Pn.ptp xs i = Kp.ad xs (Kp.ad xs (Kp.ad xs i)) := HPP.out
          have HPS := Lib.hid (show PtS g w A xs c (.slice Ao k co) k L (Kp.ad xs i) w4 from ⟨HS4.out, HR.out.below HB4.out, HO4.out, HB4.out, hgw4⟩)
          have HN5 := Lib.hid (fun (w1 : World) (h : PtS g w A xs c (.slice Ao k co) k L (Kp.ad xs i) w1) => h.next 5 (by omega) (by omega) HL.out)
          have HN2 := Lib.hid (fun (w1 : World) (h : PtS g w A xs c (.slice Ao k co) k L (Kp.ad xs (Kp.ad xs i)) w1) => h.next 2 (by omega) (by omega) HL.out)
          have v0 := Kp.nx_lo xs (Kp.ad xs i) 5 (by omega); have v1 := Kp.nx_hi xs (Kp.ad xs i) 5 (by omega)
          have y0 := Kp.nx_lo xs (Kp.ad xs (Kp.ad xs i)) 2 (by omega); have y1 := Kp.nx_hi xs (Kp.ad xs (Kp.ad xs i)) 2 (by omega)
          have HV := Lib.hid hv; have HQ := Lib.hid hq
          clear hv hq HPV HPP HS4 HB4 HO4 HNB HST HP HN
          generalize Kp.ad xs (Kp.ad xs (Kp.ad xs i)) = i3 at *
          generalize Kp.nx xs (Kp.ad xs i) 5 = v at *
          generalize Kp.nx xs (Kp.ad xs (Kp.ad xs i)) 2 = y at *
          generalize Kp.ad xs (Kp.ad xs i) = i2 at *
          obtain ⟨m, rfl⟩ := Int.eq_ofNat_of_zero_le v0
          have hm5 : m < 5 := by omega
          have hu := lit5_at m hm5
          obtain ⟨u0, u1⟩ := lit5_bd m hm5
          rw [Int.toNat_natCast] at HV
          generalize ([19968, 44032, 55295, 57344, 65535] : List Int).getD m 0 = u at *
          have HU := Lib.hid hu; clear hu
          have z1 : IntKind.i64.wrap (u + y) = u + y := IntWalk.i64_in _ (by omega)
          go_wp2_with fail
          refine wp_region_any (by kernel_rfl) ?_
          change wpAny _ _ _ _ 12 #[false, false, false, false, false, false, false, false, false, false, false, false] _ (World.drew _)
          refine wpAny_take (i := 0) (v := .slice Ao k co) rfl (by kernel_rfl) (by kernel_rfl) (by kernel_rfl) (fun _ _ _ h => h) (Or.inl ⟨by rfl, fun w => ?_⟩) ?_
          · go_simp
          try simp only [Act.put, List.setIfInBounds_toArray, List.set_cons_zero, List.set_cons_succ]
          refine wpAny_take (i := 2) (v := .pointer (some ⟨g, 0, none⟩)) rfl (by kernel_rfl) (by kernel_rfl) (by kernel_rfl) (fun _ _ _ h => h) (Or.inl ⟨by rfl, fun w => ?_⟩) ?_
          · go_simp
          try simp only [Act.put, List.setIfInBounds_toArray, List.set_cons_zero, List.set_cons_succ]
          refine wpAny_take (i := 6) (v := .pointer (some ⟨g, 0, none⟩)) rfl (by kernel_rfl) (by kernel_rfl) (by kernel_rfl) (fun _ _ _ h => h) (Or.inl ⟨by rfl, fun w => ?_⟩) ?_
          · go_simp
          try simp only [Act.put, List.setIfInBounds_toArray, List.set_cons_zero, List.set_cons_succ]
          refine wpAny_ready (rs := [1, 3]) (by kernel_rfl) (by simp) ?_
          refine AllReady.cons rfl (fun K hK => ?_) (AllReady.cons rfl (fun K hK => ?_) AllReady.nil)
          · go_simp
            refine hK _ _ ?_
            clear hK K
            try simp only [Act.put, List.setIfInBounds_toArray, List.set_cons_zero, List.set_cons_succ]
            refine wpAny_ready (rs := [3]) (by kernel_rfl) (by simp) ?_
            refine AllReady.cons rfl (fun K hK => ?_) AllReady.nil
            go_simp
            refine (HN5.out _ ((HPS.out.alloc _).drew)).mono ?_
            rintro e w5 ⟨rfl, hs5, hg5⟩
            have HS5 := Lib.hid hs5
            have hz5 : g < w5.heap.size := hs5.2.2.2.2
            clear hs5
            have hb5 := (Bk.drew (Bk.new w4 3 #[.int .i64 19968, .int .i64 44032, .int .i64 55295, .int .i64 57344, .int .i64 65535])).grown hg5 (by intro e; injection e; omega)
            have HB5 := Lib.hid hb5
            have hc5 : w5.cell? ⟨w4.heap.size, m, none⟩ = some (.int .i64 u) := (hb5.cell m).trans HU.out
            clear hb5 hg5
            refine hK _ _ ?_
            clear hK K
            try simp only [Act.put, List.setIfInBounds_toArray, List.set_cons_zero, List.set_cons_succ]
            refine wpAny_take (i := 4) (v := .pointer (some ⟨w4.heap.size, m, none⟩)) rfl (by kernel_rfl) (by kernel_rfl) (by kernel_rfl) (fun _ _ _ h => h) (Or.inl ⟨by rfl, fun w => ?_⟩) ?_
            · go_simp
            try simp only [Act.put, List.setIfInBounds_toArray, List.set_cons_zero, List.set_cons_succ]
            refine wpAny_ready (rs := [5, 7]) (by kernel_rfl) (by simp) ?_
            refine AllReady.cons rfl (fun K hK => ?_) (AllReady.cons rfl (fun K hK => ?_) AllReady.nil)
            · go_simp
              refine hK _ _ ?_
              clear hK K
              try simp only [Act.put, List.setIfInBounds_toArray, List.set_cons_zero, List.set_cons_succ]
              refine wpAny_ready (rs := [7]) (by kernel_rfl) (by simp) ?_
              refine AllReady.cons rfl (fun K hK => ?_) AllReady.nil
              go_simp
              refine (HN2.out _ (HS5.out)).mono ?_
              rintro e w6 ⟨rfl, hs6, hg6⟩
              have HS6 := Lib.hid hs6
              clear hs6
              clear hg6
              refine hK _ _ ?_
              clear hK K
              try simp only [Act.put, List.setIfInBounds_toArray, List.set_cons_zero, List.set_cons_succ]
              refine wpAny_take (i := 8) (v := .int .i64 (u + y)) rfl (by kernel_rfl) (by kernel_rfl) (by kernel_rfl) (fun _ _ _ h => h) (Or.inl ⟨by rfl, fun w => ?_⟩) ?_
              · go_simp
              try simp only [Act.put, List.setIfInBounds_toArray, List.set_cons_zero, List.set_cons_succ]
              refine wpAny_ready (rs := [9]) (by kernel_rfl) (by simp) ?_
              refine AllReady.cons rfl (fun K hK => ?_) AllReady.nil
              go_simp
              refine hK _ _ ?_
              clear hK K
              try simp only [Act.put, List.setIfInBounds_toArray, List.set_cons_zero, List.set_cons_succ]
              refine wpAny_ready (rs := [10]) (by kernel_rfl) (by simp) ?_
              refine AllReady.cons rfl (fun K hK => ?_) AllReady.nil
              refine step_app_int (by rfl) (.tmp 39) (.tmp 48) (by rfl) (base := g + 1) (by rfl) ((HS6.out).2.2.1.alloc _) (by rfl) (rd_one_int rfl (u + y)) (by omega) (by have := (HS6.out).2.2.2.2; simp at this ⊢; omega) ?_
              intro A7 c7 w7 ho7 hg7
              have HPM := Lib.hid (PtMid.put (HS6.out).2.2.1 (HS6.out).1 (HS6.out).2.2.2.1 (Nat.le_of_lt (HS6.out).2.2.2.2) ho7 hg7)
              clear ho7 hg7
              refine hK _ _ ?_
              clear hK K
              try simp only [Act.put, List.setIfInBounds_toArray, List.set_cons_zero, List.set_cons_succ]
              refine wpAny_ready (rs := [11]) (by kernel_rfl) (by simp) ?_
              refine AllReady.cons rfl (fun K hK => ?_) AllReady.nil
              go_simp
              refine hK _ _ ?_
              clear hK K
              try simp only [Act.put, List.setIfInBounds_toArray, List.set_cons_zero, List.set_cons_succ]
              refine wpAny_done (by kernel_rfl) ?_ _
              go_step
              go_wp2_with fail
              go_meet
              case rel => rw [HV.out, HQ.out]; exact HPM.out
            · skip
              go_simp
              refine (HN2.out _ (HS5.out)).mono ?_
              rintro e w6 ⟨rfl, hs6, hg6⟩
              have HS6 := Lib.hid hs6
              clear hs6
              have hc6 : w6.cell? ⟨w4.heap.size, m, none⟩ = some (.int .i64 u) := ((HB5.out.grown hg6 (by intro e; injection e; omega)).cell m).trans HU.out
              clear hg6 hc5
              refine hK _ _ ?_
              clear hK K
              try simp only [Act.put, List.setIfInBounds_toArray, List.set_cons_zero, List.set_cons_succ]
              refine wpAny_ready (rs := [5]) (by kernel_rfl) (by simp) ?_
              refine AllReady.cons rfl (fun K hK => ?_) AllReady.nil
              go_simp
              refine hK _ _ ?_
              clear hK K
              try simp only [Act.put, List.setIfInBounds_toArray, List.set_cons_zero, List.set_cons_succ]
              refine wpAny_take (i := 8) (v := .int .i64 (u + y)) rfl (by kernel_rfl) (by kernel_rfl) (by kernel_rfl) (fun _ _ _ h => h) (Or.inl ⟨by rfl, fun w => ?_⟩) ?_
              · go_simp
              try simp only [Act.put, List.setIfInBounds_toArray, List.set_cons_zero, List.set_cons_succ]
              refine wpAny_ready (rs := [9]) (by kernel_rfl) (by simp) ?_
              refine AllReady.cons rfl (fun K hK => ?_) AllReady.nil
              go_simp
              refine hK _ _ ?_
              clear hK K
              try simp only [Act.put, List.setIfInBounds_toArray, List.set_cons_zero, List.set_cons_succ]
              refine wpAny_ready (rs := [10]) (by kernel_rfl) (by simp) ?_
              refine AllReady.cons rfl (fun K hK => ?_) AllReady.nil
              refine step_app_int (by rfl) (.tmp 39) (.tmp 48) (by rfl) (base := g + 1) (by rfl) ((HS6.out).2.2.1.alloc _) (by rfl) (rd_one_int rfl (u + y)) (by omega) (by have := (HS6.out).2.2.2.2; simp at this ⊢; omega) ?_
              intro A7 c7 w7 ho7 hg7
              have HPM := Lib.hid (PtMid.put (HS6.out).2.2.1 (HS6.out).1 (HS6.out).2.2.2.1 (Nat.le_of_lt (HS6.out).2.2.2.2) ho7 hg7)
              clear ho7 hg7
              refine hK _ _ ?_
              clear hK K
              try simp only [Act.put, List.setIfInBounds_toArray, List.set_cons_zero, List.set_cons_succ]
              refine wpAny_ready (rs := [11]) (by kernel_rfl) (by simp) ?_
              refine AllReady.cons rfl (fun K hK => ?_) AllReady.nil
              go_simp
              refine hK _ _ ?_
              clear hK K
              try simp only [Act.put, List.setIfInBounds_toArray, List.set_cons_zero, List.set_cons_succ]
              refine wpAny_done (by kernel_rfl) ?_ _
              go_step
              go_wp2_with fail
              go_meet
              case rel => rw [HV.out, HQ.out]; exact HPM.out
          · skip
            go_simp
            refine (HN5.out _ (HPS.out.drew)).mono ?_
            rintro e w5 ⟨rfl, hs5, hg5⟩
            have HS5 := Lib.hid hs5
            have hz5 : g < w5.heap.size := hs5.2.2.2.2
            clear hs5
            clear hg5
            refine hK _ _ ?_
            clear hK K
            try simp only [Act.put, List.setIfInBounds_toArray, List.set_cons_zero, List.set_cons_succ]
            refine wpAny_ready (rs := [1, 7]) (by kernel_rfl) (by simp) ?_
            refine AllReady.cons rfl (fun K hK => ?_) (AllReady.cons rfl (fun K hK => ?_) AllReady.nil)
            · go_simp
              refine hK _ _ ?_
              clear hK K
              try simp only [Act.put, List.setIfInBounds_toArray, List.set_cons_zero, List.set_cons_succ]
              have hc5 : (w5.alloc (.cells #[.int .i64 19968, .int .i64 44032, .int .i64 55295, .int .i64 57344, .int .i64 65535] 3)).cell? ⟨w5.heap.size, m, none⟩ = some (.int .i64 u) := ((Bk.new w5 _ _).cell m).trans HU.out
              refine wpAny_take (i := 4) (v := .pointer (some ⟨w5.heap.size, m, none⟩)) rfl (by kernel_rfl) (by kernel_rfl) (by kernel_rfl) (fun _ _ _ h => h) (Or.inl ⟨by rfl, fun w => ?_⟩) ?_
              · go_simp
              try simp only [Act.put, List.setIfInBounds_toArray, List.set_cons_zero, List.set_cons_succ]
              refine wpAny_ready (rs := [5, 7]) (by kernel_rfl) (by simp) ?_
              refine AllReady.cons rfl (fun K hK => ?_) (AllReady.cons rfl (fun K hK => ?_) AllReady.nil)
              · go_simp
                refine hK _ _ ?_
                clear hK K
                try simp only [Act.put, List.setIfInBounds_toArray, List.set_cons_zero, List.set_cons_succ]
                refine wpAny_ready (rs := [7]) (by kernel_rfl) (by simp) ?_
                refine AllReady.cons rfl (fun K hK => ?_) AllReady.nil
                go_simp
                refine (HN2.out _ (HS5.out.alloc _)).mono ?_
                rintro e w6 ⟨rfl, hs6, hg6⟩
                have HS6 := Lib.hid hs6
                clear hs6
                clear hg6
                refine hK _ _ ?_
                clear hK K
                try simp only [Act.put, List.setIfInBounds_toArray, List.set_cons_zero, List.set_cons_succ]
                refine wpAny_take (i := 8) (v := .int .i64 (u + y)) rfl (by kernel_rfl) (by kernel_rfl) (by kernel_rfl) (fun _ _ _ h => h) (Or.inl ⟨by rfl, fun w => ?_⟩) ?_
                · go_simp
                try simp only [Act.put, List.setIfInBounds_toArray, List.set_cons_zero, List.set_cons_succ]
                refine wpAny_ready (rs := [9]) (by kernel_rfl) (by simp) ?_
                refine AllReady.cons rfl (fun K hK => ?_) AllReady.nil
                go_simp
                refine hK _ _ ?_
                clear hK K
                try simp only [Act.put, List.setIfInBounds_toArray, List.set_cons_zero, List.set_cons_succ]
                refine wpAny_ready (rs := [10]) (by kernel_rfl) (by simp) ?_
                refine AllReady.cons rfl (fun K hK => ?_) AllReady.nil
                refine step_app_int (by rfl) (.tmp 39) (.tmp 48) (by rfl) (base := g + 1) (by rfl) ((HS6.out).2.2.1.alloc _) (by rfl) (rd_one_int rfl (u + y)) (by omega) (by have := (HS6.out).2.2.2.2; simp at this ⊢; omega) ?_
                intro A7 c7 w7 ho7 hg7
                have HPM := Lib.hid (PtMid.put (HS6.out).2.2.1 (HS6.out).1 (HS6.out).2.2.2.1 (Nat.le_of_lt (HS6.out).2.2.2.2) ho7 hg7)
                clear ho7 hg7
                refine hK _ _ ?_
                clear hK K
                try simp only [Act.put, List.setIfInBounds_toArray, List.set_cons_zero, List.set_cons_succ]
                refine wpAny_ready (rs := [11]) (by kernel_rfl) (by simp) ?_
                refine AllReady.cons rfl (fun K hK => ?_) AllReady.nil
                go_simp
                refine hK _ _ ?_
                clear hK K
                try simp only [Act.put, List.setIfInBounds_toArray, List.set_cons_zero, List.set_cons_succ]
                refine wpAny_done (by kernel_rfl) ?_ _
                go_step
                go_wp2_with fail
                go_meet
                case rel => rw [HV.out, HQ.out]; exact HPM.out
              · skip
                go_simp
                refine (HN2.out _ (HS5.out.alloc _)).mono ?_
                rintro e w6 ⟨rfl, hs6, hg6⟩
                have HS6 := Lib.hid hs6
                clear hs6
                have hc6 : w6.cell? ⟨w5.heap.size, m, none⟩ = some (.int .i64 u) := (((Bk.new w5 3 #[.int .i64 19968, .int .i64 44032, .int .i64 55295, .int .i64 57344, .int .i64 65535]).grown hg6 (by intro e; injection e; omega)).cell m).trans HU.out
                clear hg6 hc5
                refine hK _ _ ?_
                clear hK K
                try simp only [Act.put, List.setIfInBounds_toArray, List.set_cons_zero, List.set_cons_succ]
                refine wpAny_ready (rs := [5]) (by kernel_rfl) (by simp) ?_
                refine AllReady.cons rfl (fun K hK => ?_) AllReady.nil
                go_simp
                refine hK _ _ ?_
                clear hK K
                try simp only [Act.put, List.setIfInBounds_toArray, List.set_cons_zero, List.set_cons_succ]
                refine wpAny_take (i := 8) (v := .int .i64 (u + y)) rfl (by kernel_rfl) (by kernel_rfl) (by kernel_rfl) (fun _ _ _ h => h) (Or.inl ⟨by rfl, fun w => ?_⟩) ?_
                · go_simp
                try simp only [Act.put, List.setIfInBounds_toArray, List.set_cons_zero, List.set_cons_succ]
                refine wpAny_ready (rs := [9]) (by kernel_rfl) (by simp) ?_
                refine AllReady.cons rfl (fun K hK => ?_) AllReady.nil
                go_simp
                refine hK _ _ ?_
                clear hK K
                try simp only [Act.put, List.setIfInBounds_toArray, List.set_cons_zero, List.set_cons_succ]
                refine wpAny_ready (rs := [10]) (by kernel_rfl) (by simp) ?_
                refine AllReady.cons rfl (fun K hK => ?_) AllReady.nil
                refine step_app_int (by rfl) (.tmp 39) (.tmp 48) (by rfl) (base := g + 1) (by rfl) ((HS6.out).2.2.1.alloc _) (by rfl) (rd_one_int rfl (u + y)) (by omega) (by have := (HS6.out).2.2.2.2; simp at this ⊢; omega) ?_
                intro A7 c7 w7 ho7 hg7
                have HPM := Lib.hid (PtMid.put (HS6.out).2.2.1 (HS6.out).1 (HS6.out).2.2.2.1 (Nat.le_of_lt (HS6.out).2.2.2.2) ho7 hg7)
                clear ho7 hg7
                refine hK _ _ ?_
                clear hK K
                try simp only [Act.put, List.setIfInBounds_toArray, List.set_cons_zero, List.set_cons_succ]
                refine wpAny_ready (rs := [11]) (by kernel_rfl) (by simp) ?_
                refine AllReady.cons rfl (fun K hK => ?_) AllReady.nil
                go_simp
                refine hK _ _ ?_
                clear hK K
                try simp only [Act.put, List.setIfInBounds_toArray, List.set_cons_zero, List.set_cons_succ]
                refine wpAny_done (by kernel_rfl) ?_ _
                go_step
                go_wp2_with fail
                go_meet
                case rel => rw [HV.out, HQ.out]; exact HPM.out
            · skip
              go_simp
              refine (HN2.out _ (HS5.out)).mono ?_
              rintro e w6 ⟨rfl, hs6, hg6⟩
              have HS6 := Lib.hid hs6
              clear hs6
              clear hg6
              refine hK _ _ ?_
              clear hK K
              try simp only [Act.put, List.setIfInBounds_toArray, List.set_cons_zero, List.set_cons_succ]
              refine wpAny_ready (rs := [1]) (by kernel_rfl) (by simp) ?_
              refine AllReady.cons rfl (fun K hK => ?_) AllReady.nil
              go_simp
              refine hK _ _ ?_
              clear hK K
              try simp only [Act.put, List.setIfInBounds_toArray, List.set_cons_zero, List.set_cons_succ]
              have hc6 : (w6.alloc (.cells #[.int .i64 19968, .int .i64 44032, .int .i64 55295, .int .i64 57344, .int .i64 65535] 3)).cell? ⟨w6.heap.size, m, none⟩ = some (.int .i64 u) := ((Bk.new w6 _ _).cell m).trans HU.out
              refine wpAny_take (i := 4) (v := .pointer (some ⟨w6.heap.size, m, none⟩)) rfl (by kernel_rfl) (by kernel_rfl) (by kernel_rfl) (fun _ _ _ h => h) (Or.inl ⟨by rfl, fun w => ?_⟩) ?_
              · go_simp
              try simp only [Act.put, List.setIfInBounds_toArray, List.set_cons_zero, List.set_cons_succ]
              refine wpAny_ready (rs := [5]) (by kernel_rfl) (by simp) ?_
              refine AllReady.cons rfl (fun K hK => ?_) AllReady.nil
              go_simp
              refine hK _ _ ?_
              clear hK K
              try simp only [Act.put, List.setIfInBounds_toArray, List.set_cons_zero, List.set_cons_succ]
              refine wpAny_take (i := 8) (v := .int .i64 (u + y)) rfl (by kernel_rfl) (by kernel_rfl) (by kernel_rfl) (fun _ _ _ h => h) (Or.inl ⟨by rfl, fun w => ?_⟩) ?_
              · go_simp
              try simp only [Act.put, List.setIfInBounds_toArray, List.set_cons_zero, List.set_cons_succ]
              refine wpAny_ready (rs := [9]) (by kernel_rfl) (by simp) ?_
              refine AllReady.cons rfl (fun K hK => ?_) AllReady.nil
              go_simp
              refine hK _ _ ?_
              clear hK K
              try simp only [Act.put, List.setIfInBounds_toArray, List.set_cons_zero, List.set_cons_succ]
              refine wpAny_ready (rs := [10]) (by kernel_rfl) (by simp) ?_
              refine AllReady.cons rfl (fun K hK => ?_) AllReady.nil
              refine step_app_int (by rfl) (.tmp 39) (.tmp 48) (by rfl) (base := g + 1) (by rfl) (((HS6.out.alloc (.cells #[.int .i64 19968, .int .i64 44032, .int .i64 55295, .int .i64 57344, .int .i64 65535] 3))).2.2.1.alloc _) (by rfl) (rd_one_int (z := w6.heap.size + 1) (by simp) (u + y)) (by omega) (by have := ((HS6.out.alloc (.cells #[.int .i64 19968, .int .i64 44032, .int .i64 55295, .int .i64 57344, .int .i64 65535] 3))).2.2.2.2; simp at this ⊢; omega) ?_
              intro A7 c7 w7 ho7 hg7
              have HPM := Lib.hid (PtMid.put ((HS6.out.alloc (.cells #[.int .i64 19968, .int .i64 44032, .int .i64 55295, .int .i64 57344, .int .i64 65535] 3))).2.2.1 ((HS6.out.alloc (.cells #[.int .i64 19968, .int .i64 44032, .int .i64 55295, .int .i64 57344, .int .i64 65535] 3))).1 ((HS6.out.alloc (.cells #[.int .i64 19968, .int .i64 44032, .int .i64 55295, .int .i64 57344, .int .i64 65535] 3))).2.2.2.1 (Nat.le_of_lt ((HS6.out.alloc (.cells #[.int .i64 19968, .int .i64 44032, .int .i64 55295, .int .i64 57344, .int .i64 65535] 3))).2.2.2.2) ho7 hg7)
              clear ho7 hg7
              refine hK _ _ ?_
              clear hK K
              try simp only [Act.put, List.setIfInBounds_toArray, List.set_cons_zero, List.set_cons_succ]
              refine wpAny_ready (rs := [11]) (by kernel_rfl) (by simp) ?_
              refine AllReady.cons rfl (fun K hK => ?_) AllReady.nil
              go_simp
              refine hK _ _ ?_
              clear hK K
              try simp only [Act.put, List.setIfInBounds_toArray, List.set_cons_zero, List.set_cons_succ]
              refine wpAny_done (by kernel_rfl) ?_ _
              go_step
              go_wp2_with fail
              go_meet
              case rel => rw [HV.out, HQ.out]; exact HPM.out
        · have hv : Pn.ptv xs i = 65536 + Kp.nx xs (Kp.ad xs i) 1048576 := HPV.out
          have hq : Pn.ptp xs i = Kp.ad xs (Kp.ad xs i) := HPP.out
          have HV := Lib.hid hv; have HQ := Lib.hid hq; clear hv hq
          go_wp2_with fail
          refine (next_any g A c xs (Kp.ad xs i) 1048576 (by omega) (by omega) g _ HS4.out (HR.out.below HB4.out) (by omega) HL.out).mono ?_
          rintro e w5 ⟨rfl, hs5, hg5⟩
          have hsz5 := hg5.size
          have HS5 := Lib.hid hs5
          have HB5 := Lib.hid (HB4.out.grown hg5 (by omega) (fun k hk => by injection hk; omega))
          have HO5 := Lib.hid (HO4.out.kept hg5 (by
            cases hob : (Value.slice Ao k co).ownBlock with
            | none => exact .inl rfl
            | some q => have := HNB.out q hob; exact .inr (by intro e; injection e; omega)))
          clear hs5 hg5
          have v0 := Kp.nx_lo xs (Kp.ad xs i) 1048576 (by omega); have v1 := Kp.nx_hi xs (Kp.ad xs i) 1048576 (by omega)
          generalize Kp.nx xs (Kp.ad xs i) 1048576 = v at *
          go_wp2_with (at_builtin; refine app_int (by rfl) _ _ rfl (base := g + 1) rfl (HO5.out.alloc _) rfl (rd_one_int (z := w5.heap.size) rfl (65536 + v)) (by omega) (by simp <;> omega) ?_)
          intro A6 c6 w6 ho6 hg6 hc6
          have HPM := Lib.hid (PtMid.put HO5.out HS5.out HB5.out (by omega) ho6 hg6)
          clear ho6 hg6 hc6
          go_wp2
          go_meet
          case rel => rw [HV.out, HQ.out]; exact HPM.out
      case rest =>
        obtain ⟨A7, c7, rfl, ho7, hs7, hb7⟩ := hcut
        obtain ⟨g7, rfl, hg7, hg7l, hc7, hf7, hset⟩ := own_last ho7 HLL.out
        have HO7 := Lib.hid ho7; have HS7 := Lib.hid hs7; have HB7 := Lib.hid hb7; have HSET := Lib.hid hset
        have hfx : Pn.fix (Pn.ptv xs i) = if Pn.scalar (Pn.ptv xs i) = true then Pn.ptv xs i else 128 := rfl
        clear ho7 hs7 hb7 hset HS4 HB4 HO4 HPV HPP
        generalize Pn.ptv xs i = v at *
        go_wp2_with fail
        refine (rscalar_any v _).mono ?_
        rintro e w9 ⟨rfl, hpw⟩
        subst hpw
        cases hsc : Pn.scalar v
        · rw [hsc] at hfx
          have HFX := Lib.hid (show Pn.fix v = 128 from hfx); clear hfx hsc
          have HO8 := Lib.hid (HSET.out 128)
          have HS8 := Lib.hid (Bk.far HS7.out (p := ⟨g7, k, none⟩) (by show g ≠ g7; omega) (.int .i64 128))
          have HB8 := Lib.hid (HB7.out.setCell (p := ⟨g7, k, none⟩) (show g ≤ g7 by omega) (.int .i64 128))
          go_wp2
          go_roundw
          case rel => exact ⟨k + 1, some ⟨g7, 0, none⟩, c7, by omega, by go_num, rfl, by rw [HST.out, HFX.out]; exact HO8.out, by rw [HST.out]; exact HS8.out, HB8.out⟩
          case measure => simp [intOf]; omega
        · rw [hsc] at hfx
          have HFX := Lib.hid (show Pn.fix v = v from hfx); clear hfx hsc
          go_wp2
          go_roundw
          case rel => exact ⟨k + 1, some ⟨g7, 0, none⟩, c7, by omega, by go_num, rfl, by rw [HST.out, HFX.out]; exact HO7.out, by rw [HST.out]; exact HS7.out, HB7.out⟩
          case measure => simp [intOf]; omega
    · have hkN : k = N := by omega
      have hneg : ¬ (0 : Int) < ((N - k : Nat) : Int) := by omega
      have hll := Pn.lpS_len xs k
      have HLL := Lib.hid hll; clear hll
      go_wp2
      go_ret
      have hlen : (Pn.lp xs).length = N := by rw [HP.out, ← hkN]; exact HLL.out
      unfold RetI
      rw [hlen, HG.out, HP.out]
      subst hkN
      exact ⟨Ao, co, rfl, own_low HO.out (by omega), HB.out⟩
end Go.Proofs.Ytoihjbiahccaaaa
