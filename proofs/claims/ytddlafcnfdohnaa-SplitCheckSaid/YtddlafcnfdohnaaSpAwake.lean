/- The example of chapter 12, and the law about the longest names. -/
import Derived.Test.YtddlafcnfdohnaaLabels
import Derived.Test.YtddlafcnfdohnaaPick
import Derived.Deep.RegionWith
import Derived.Deep.OwnRows
import Derived.Laws.IdiomStrings
namespace Go.Proofs.Ytddlafcnfdohnaa
open Go Go.RowKit
set_option linter.unusedVariables false

/-- Three rows, cell by cell. -/
theorem rows3 {w : World} {B : Nat} {A : Option Addr} {r0 r1 r2 : List Int} (h : RdR w B A [r0, r1, r2]) :
    ∃ b off A0 c0 A1 c1 A2 c2, A = some ⟨b, off, none⟩ ∧ b < B ∧ w.cell? ⟨b, off, none⟩ = some (.slice A0 r0.length c0) ∧ w.cell? ⟨b, off + 1, none⟩ = some (.slice A1 r1.length c1) ∧ w.cell? ⟨b, off + 2, none⟩ = some (.slice A2 r2.length c2) ∧
      Rd w B 1 A0 r0.length (ints r0) ∧ Rd w B 1 A2 r2.length (ints r2) := by
  obtain ⟨b, off, ys0, A0, c0, rfl, hb, h0, hc0, hd0⟩ := h.at_ (k := 0) (by simp)
  obtain ⟨b1, off1, ys1, A1, c1, he1, _, h1, hc1, _⟩ := h.at_ (k := 1) (by simp)
  obtain ⟨b2, off2, ys2, A2, c2, he2, _, h2, hc2, hd2⟩ := h.at_ (k := 2) (by simp)
  injection he1 with he1; injection he1 with he1 ho1; subst he1; subst ho1
  injection he2 with he2; injection he2 with he2 ho2; subst he2; subst ho2
  simp at h0 h1 h2
  subst h0; subst h1; subst h2
  exact ⟨_, _, _, _, _, _, _, _, rfl, hb, hc0, hc1, hc2, hd0, hd2⟩

set_option maxHeartbeats 1000000 in
theorem awake12_any (w : World) : Calls Try.prog 9 #[] w fun e w' => e = .returned (.bool true) ∧ Below w.heap.size w w' := by
  have l1 : Sp.labels [97, 46, 46, 98] = [[97], [], [98]] := by decide +kernel
  go_enter Try.func9, Try.ntmps9
  go_wp2_with fail
  refine (labels_any _ _ [97, 46, 46, 98] _ ?_ (by decide)).mono ?_
  · have := Rd.of_own (own_built w 0 3 #[.int .i64 97, .int .i64 46, .int .i64 46, .int .i64 98] 4 rfl (by decide) (Nat.zero_le _))
    simpa [ints] using this
  rw [l1]
  rintro e w1 ⟨A, c, vs, rfl, hown, hrw, hb⟩
  have hrr := rdr_of hown hrw
  have hb1 : Below w.heap.size w w1 := ((Below.refl w.heap.size w).alloc (Nat.le_refl _) _).trans (hb.mono (by simp))
  have HB := Lib.hid hb1
  obtain ⟨b, off, A0, c0, A1, c1, A2, c2, rfl, hbl, hc0, hc1, hc2, hd0, hd2⟩ := rows3 hrr
  clear hown hrw hb hrr hb1 l1
  go_wp2_with fail
  have k1 : Sp.chk [⟨#[97]⟩, ⟨#[]⟩, ⟨#[98]⟩] = (1, 10) := by decide +kernel
  refine (check_any _ _ [⟨#[97]⟩, ⟨#[]⟩, ⟨#[98]⟩] (w1.heap.size + 1) _ ?_ (by decide)).mono ?_
  · have := Rd.of_own (own_built w1 0 9 #[.string ⟨#[97]⟩, .string ⟨#[]⟩, .string ⟨#[98]⟩] 3 rfl (by decide) (Nat.zero_le _))
    simpa [strs] using this
  rw [k1]
  rintro e w2 ⟨rfl, rfl⟩
  clear k1
  generalize hw2 : w1.alloc (.cells #[.string ⟨#[97]⟩, .string ⟨#[]⟩, .string ⟨#[98]⟩] 9) = w2 at *
  have hb2 : Below w.heap.size w w2 := by rw [← hw2]; exact HB.out.alloc HB.out.size _
  have g0 : w2.cell? ⟨b, off, none⟩ = some (.slice A0 [97].length c0) := by rw [← hw2]; exact (World.cell?_alloc_lt w1 _ _ hbl).trans hc0
  have g1 : w2.cell? ⟨b, off + 1, none⟩ = some (.slice A1 ([] : List Int).length c1) := by rw [← hw2]; exact (World.cell?_alloc_lt w1 _ _ hbl).trans hc1
  have g2 : w2.cell? ⟨b, off + 2, none⟩ = some (.slice A2 [98].length c2) := by rw [← hw2]; exact (World.cell?_alloc_lt w1 _ _ hbl).trans hc2
  have d0 : Rd w2 w2.heap.size 1 A0 [97].length (ints [97]) := by rw [← hw2]; exact (hd0.alloc (Nat.le_refl _) _).more (by simp)
  have d2 : Rd w2 w2.heap.size 1 A2 [98].length (ints [98]) := by rw [← hw2]; exact (hd2.alloc (Nat.le_refl _) _).more (by simp)
  have hbl2 : b < w2.heap.size := by rw [← hw2]; simp; omega
  have HB2 := Lib.hid hb2; have D0 := Lib.hid d0; have D2 := Lib.hid d2
  clear hb2 d0 d2 hd0 hd2 hc0 hc1 hc2 HB hbl hw2
  simp only [List.length_cons, List.length_nil] at g0 g1 g2
  go_wp2_with fail
  have e2 : Rd (w2.alloc (.cells #[.int .i64 97] 3)) (w2.heap.size + 1) 1 (some ⟨w2.heap.size, 0, none⟩) 1 (ints [97]) := by
    have := Rd.of_own (own_built w2 0 3 #[.int .i64 97] 1 rfl (by decide) (Nat.zero_le _))
    simpa [ints] using this
  refine (same_ok _ _ 1 1 _ _ [97] [97] _ _ ((D0.out.alloc (Nat.le_refl _) _).more (by omega)) e2 (by decide) (by decide) rfl).mono ?_
  rintro e w3 ⟨rfl, m, rfl⟩
  clear e2
  generalize hw3 : (w2.alloc (.cells #[.int .i64 97] 3)).drewN m = w3 at *
  have hb3 : Below w.heap.size w w3 := by rw [← hw3]; exact below_drewN (HB2.out.alloc HB2.out.size _) _
  have q1 : w3.cell? ⟨b, off + 1, none⟩ = some (.slice A1 0 c1) := by rw [← hw3]; exact (World.cell?_alloc_lt w2 _ _ hbl2).trans g1
  have q2 : w3.cell? ⟨b, off + 2, none⟩ = some (.slice A2 1 c2) := by rw [← hw3]; exact (World.cell?_alloc_lt w2 _ _ hbl2).trans g2
  have d3 : Rd w3 w3.heap.size 1 A2 [98].length (ints [98]) := by rw [← hw3]; exact (D2.out.alloc (Nat.le_refl _) _).more (by simp)
  have HB3 := Lib.hid hb3; have D3 := Lib.hid d3
  clear hb3 d3 g0 g1 g2 HB2 D0 D2 hw3 hbl2
  simp only [decide_true]
  go_wp2_with fail
  have e3 : Rd (w3.alloc (.cells #[.int .i64 98] 3)) (w3.heap.size + 1) 1 (some ⟨w3.heap.size, 0, none⟩) 1 (ints [98]) := by
    have := Rd.of_own (own_built w3 0 3 #[.int .i64 98] 1 rfl (by decide) (Nat.zero_le _))
    simpa [ints] using this
  refine (same_ok _ _ 1 1 _ _ [98] [98] _ _ ((D3.out.alloc (Nat.le_refl _) _).more (by omega)) e3 (by decide) (by decide) rfl).mono ?_
  rintro e w4 ⟨rfl, m4, rfl⟩
  clear e3
  have hb4 := Lib.hid (below_drewN (HB3.out.alloc HB3.out.size (.cells #[.int .i64 98] 3)) m4)
  go_wp2
  go_ret
  exact ⟨rfl, hb4.out⟩

theorem info_byte : (Try.prog.info? 5).map (fun i => (i.zero, i.size, i.bytes)) = some (some (.int .u8 0), 1, 1) := by kernel_rfl
theorem info_str1 : (Try.prog.info? 9).map (fun i => (i.zero, i.size, i.bytes)) = some (some (.string ⟨#[]⟩), 1, 16) := by kernel_rfl
theorem made_at (z : Value) (n j : Nat) (hj : j < n) : (madeCells #[z] n)[j]? = some z := by simp [madeCells, hj, Nat.mod_one]
/-- n bytes 0, as a string. -/
theorem conv_made (n : Nat) (w : World) : (convert 23 9 (.slice (some ⟨w.heap.size, 0, none⟩) n n)).run Try.prog (w.alloc (.cells (madeCells #[.int .u8 0] n) 5)) =
    .ok (.string ⟨(List.replicate n (0 : UInt8)).toArray⟩) (w.alloc (.cells (madeCells #[.int .u8 0] n) 5)) := by
  have h := run_convert_bytes_back (P := Try.prog) (w.alloc (.cells (madeCells #[.int .u8 0] n) 5)) 23 9 5 ⟨w.heap.size, 0, none⟩ n (List.replicate n (0 : UInt8)) Try.underlying23 Try.underlying5 Try.underlying9 (fun j hj => by
    have hjn : j < n := by simpa using hj
    have ha : (⟨w.heap.size, 0, none⟩ : Addr).add j = ⟨w.heap.size, 0 + j, none⟩ := by unfold Addr.add; split <;> simp_all
    rw [ha, World.cell?_alloc_mark, Nat.zero_add, made_at _ _ _ hjn]
    simp)
  simpa using h

theorem chk4 (z y : ByteArray) (hz : z.size = 63) (hy0 : y.size ≠ 0) (hy : y.size ≤ 63) : Sp.chk (List.replicate 3 z ++ [y]) = if y.size ≤ 61 then (0, 0) else (0, 11) := by
  have hf : Sp.fine (List.replicate 3 z ++ [y]) (List.replicate 3 z ++ [y]).length := by
    intro j s hj hs
    have hm := List.mem_of_getElem? hs
    simp at hm
    rcases hm with rfl | rfl
    · omega
    · omega
  have hb : Sp.bytes (List.replicate 3 z ++ [y]) = 189 + y.size := by simp [Sp.bytes, hz, List.replicate]; omega
  by_cases h : y.size ≤ 61
  · rw [if_pos h]
    exact Sp.chk_ok _ (by simp) hf (by rw [hb]; simp; omega)
  · rw [if_neg h]
    exact Sp.chk_long _ (by simp) hf (by rw [hb]; simp; omega)
theorem chkn (x : ByteArray) (hx : x.size = 1) (n : Nat) (h0 : 0 < n) : Sp.chk (List.replicate n x) = if n ≤ 127 then (0, 0) else (0, 11) := by
  have hf : Sp.fine (List.replicate n x) (List.replicate n x).length := by
    intro j s hj hs
    have hm := List.eq_of_mem_replicate (List.mem_of_getElem? hs)
    subst hm
    omega
  have hb : Sp.bytes (List.replicate n x) = n := by simp [Sp.bytes, hx]
  have hne : List.replicate n x ≠ [] := by simp; omega
  by_cases h : n ≤ 127
  · rw [if_pos h]
    exact Sp.chk_ok _ hne hf (by rw [hb]; simp; omega)
  · rw [if_neg h]
    exact Sp.chk_long _ hne hf (by rw [hb]; simp; omega)
/-- The made slice of strings, k of them set. -/
theorem set_at (cs : Array Value) (k n : Nat) (u : Value) (hn : cs.size = n) (hk : k < n) (h : ∀ j, j < k → cs[j]? = some u) : ∀ j, j < k + 1 → (cs.setIfInBounds k u)[j]? = some u := by
  intro j hj
  rw [Array.getElem?_setIfInBounds]
  by_cases e : k = j
  · subst e; simp [hn, hk]
  · rw [if_neg e]; exact h j (by omega)

theorem ret_bool' {a : Bool} (h : a = true) : Ending.returned (.bool a) = .returned (.bool true) := by rw [h]
theorem strs_rep_at {k j : Nat} {x : ByteArray} {u : Value} (h : (strs (List.replicate k x))[j]? = some u) : j < k ∧ u = .string x := by
  rw [strs_at] at h
  obtain ⟨c, hc, rfl⟩ := Option.map_eq_some_iff.1 h
  obtain ⟨hj, hx⟩ := List.getElem?_eq_some_iff.1 hc
  simp at hj hx
  exact ⟨hj, by rw [← hx]⟩

set_option maxHeartbeats 2000000 in
theorem walk_SplitLong (a0 a1 : Int) (w : World) (w0 : (Lit.int .i64 a0).wf = true) (w1 : (Lit.int .i64 a1).wf = true) :
    Calls Try.prog 3 #[.int .i64 a0, .int .i64 a1] w fun e w' => e = .returned (.bool true) ∧ Below w.heap.size w w' := by
  clear w0 w1
  have p0 := Kp.pick_lo a0 3 (by omega); have p1 := Kp.pick_hi a0 3 (by omega)
  have q0 := Kp.pick_lo a1 3 (by omega); have q1 := Kp.pick_hi a1 3 (by omega)
  obtain ⟨p, hp⟩ : ∃ p : Nat, (60 : Int) + Kp.pick a0 3 = (p : Int) := ⟨(60 + Kp.pick a0 3).toNat, by omega⟩
  obtain ⟨q, hq⟩ : ∃ q : Nat, (126 : Int) + Kp.pick a1 3 = (q : Int) := ⟨(126 + Kp.pick a1 3).toNat, by omega⟩
  obtain ⟨z, hz⟩ : ∃ z : ByteArray, z = ⟨(List.replicate 63 (0 : UInt8)).toArray⟩ := ⟨_, rfl⟩
  obtain ⟨y, hy⟩ : ∃ y : ByteArray, y = ⟨(List.replicate p (0 : UInt8)).toArray⟩ := ⟨_, rfl⟩
  have hzs : z.size = 63 := by rw [hz]; rfl
  have hys : y.size = p := by rw [hy]; show Array.size _ = p; simp
  have hp0 : 60 ≤ p := by omega
  have hp1 : p ≤ 62 := by omega
  have hq0 : 126 ≤ q := by omega
  have hq1 : q ≤ 128 := by omega
  have hck := chk4 z y hzs (by omega) (by omega)
  rw [hys] at hck
  have hcn := chkn ⟨#[120]⟩ rfl q (by omega)
  have HCK := Lib.hid hck; have HCN := Lib.hid hcn
  have hmk : ∀ w : World, (Instr.makeSlice 23 (.int .i64 63) (.int .i64 63)).run Try.prog w = .ok (.slice (some ⟨w.heap.size, 0, none⟩) 63 63) (w.alloc (.cells (madeCells #[.int .u8 0] 63) 5)) := run_make_row' (P := Try.prog) 23 5 (.int .u8 0) 1 Try.underlying23 info_byte rfl .i64 .i64 63 (by decide) (by decide)
  have hmp := run_make_row' (P := Try.prog) 23 5 (.int .u8 0) 1 Try.underlying23 info_byte rfl .i64 .i64 p (by omega) (by omega)
  have hmq := run_make_row' (P := Try.prog) 22 9 (.string ⟨#[]⟩) 16 Try.underlying22 info_str1 rfl .i64 .i64 q (by omega) (by omega)
  generalize hP0 : Kp.pick a0 3 = P0 at *
  generalize hQ0 : Kp.pick a1 3 = Q0 at *
  rw [← hp] at hmp
  rw [← hq] at hmq
  have HP0 := Lib.hid hP0; have HQ0 := Lib.hid hQ0
  clear hP0 hQ0
  have hcv := conv_made 63
  have hcp := conv_made p
  rw [← hz] at hcv
  rw [← hy] at hcp
  have HP := Lib.hid hp; have HQ := Lib.hid hq
  clear hp hq hz hy hzs hys hck hcn
  go_enter Try.func3, Try.ntmps3
  go_wp2_with fail
  go_loopw [5, 6] (fun vo i wr => ∃ (k : Nat) (Ao : Option Addr) (co : Nat), k ≤ 3 ∧ i = .int .i64 k ∧ vo = .slice Ao k co ∧
      wr.ownsRow w.heap.size 9 1 (.slice Ao k co) k (strs (List.replicate k z)) ∧ Below w.heap.size w wr) (fun _ i _ => 3 - (intOf i).toNat)
  case atStart => exact ⟨0, none, 0, by omega, rfl, rfl, World.ownsRow_nil _ _ _ _, Below.refl _ _⟩
  case round =>
    obtain ⟨k, Ao, co, hk, rfl, rfl, ho, hb⟩ := hrel
    have HO := Lib.hid ho; have HB := Lib.hid hb
    clear ho hb
    by_cases hlt : k < 3
    · have hsz := HB.out.size
      go_wp2_with (at_builtin; refine app_str (by rfl) _ _ rfl (base := w.heap.size) rfl ((HO.out.alloc _).alloc _) rfl (by simpa using rd_one_str (wr.alloc (.cells (madeCells #[.int .u8 0] 63) 5)) z) (by omega) (by simp; omega) ?_)
      intro A1 c1 w1 ho1 hg1 _
      have ho2 : w1.ownsRow w.heap.size 9 1 (.slice A1 (k + 1) c1) (k + 1) (strs (List.replicate (k + 1) z)) := by
        rw [List.replicate_succ']; exact ho1
      have hb1 : Below w.heap.size w w1 := ((HB.out.alloc hsz _).alloc (by simp; omega) _).grown hg1 (by simp; omega) (fun q h => (HO.out.lt q h).1)
      have HO2 := Lib.hid ho2; have HB1 := Lib.hid hb1
      clear ho1 ho2 hg1 hb1
      go_wp2
      go_roundw
      case rel => exact ⟨k + 1, A1, c1, by omega, by go_num, rfl, HO2.out, HB1.out⟩
      case measure => simp [intOf]; omega
    · have hk3 : k = 3 := by omega
      subst hk3
      have hsz := HB.out.size
      clear hmk hcv
      go_wp2_with fail
      refine (pick_any _ _ (by omega) (by omega) _).mono ?_
      rintro e w' ⟨rfl, rfl⟩
      rw [HP0.out]
      go_wp2_with (at_builtin; refine app_str (by rfl) _ _ rfl (base := w.heap.size) rfl ((HO.out.alloc _).alloc _) rfl (by simpa using rd_one_str (wr.alloc (.cells (madeCells #[.int .u8 0] p) 5)) y) (by omega) (by simp; omega) ?_)
      intro A1 c1 w1 ho1 hg1 _
      have hb1 : Below w.heap.size w w1 := ((HB.out.alloc hsz _).alloc (by simp; omega) _).grown hg1 (by simp; omega) (fun q h => (HO.out.lt q h).1)
      have hr1 : Rd w1 w1.heap.size 1 A1 (List.replicate 3 z ++ [y]).length (strs (List.replicate 3 z ++ [y])) := Rd.of_own ho1
      have HR1 := Lib.hid hr1; have HB1 := Lib.hid hb1
      clear ho1 hg1 hb1 hr1 HO HB hsz hmp hcp
      go_wp2_with fail
      refine (check_any _ _ (List.replicate 3 z ++ [y]) _ _ HR1.out (by simp)).mono ?_
      rw [HCK.out]
      rintro e w' ⟨rfl, rfl⟩
      clear HR1 HCK
      have hE1 : ∀ b : Prop, [Decidable b] → (if b then ((0 : Int), (0 : Int)) else (0, 11)) = (0, if b then 0 else 11) := by intro b _; split <;> rfl
      rw [hE1]
      simp only
      generalize hE : (if p ≤ 61 then (0 : Int) else 11) = E
      have HE := Lib.hid hE; clear hE
      go_wp2_with fail
      refine (pick_any _ _ (by omega) (by omega) _).mono ?_
      rintro e w' ⟨rfl, rfl⟩
      rw [HQ0.out]
      have hsz1 := HB1.out.size
      go_wp2_with fail
      generalize hg : w1.heap.size = g
      have hgw : w.heap.size ≤ g := by omega
      have HG := Lib.hid hg; clear hg hsz1
      go_loopw [43] (fun i wr => ∃ (k : Nat) (cs : Array Value), k ≤ q ∧ i = .int .i64 k ∧ cs.size = q ∧ (∀ j, j < k → cs[j]? = some (.string ⟨#[120]⟩)) ∧ Bk wr g 9 cs ∧ Below w.heap.size w wr) (fun i _ => q - (intOf i).toNat)
      case atStart =>
        refine ⟨0, madeCells #[.string ⟨#[]⟩] q, by omega, rfl, by simp [madeCells], fun j hj => by omega, ?_, HB1.out.alloc HB1.out.size _⟩
        rw [← HG.out]; exact Bk.new _ _ _
      case round =>
        obtain ⟨k, cs, hkq, rfl, hcs, hset, hbk, hb⟩ := hrel
        have HS := Lib.hid hset; have HBK := Lib.hid hbk; have HB := Lib.hid hb
        have HCS := Lib.hid hcs
        clear hset hbk hb
        by_cases hlt2 : k < q
        · obtain ⟨v0, hcell⟩ : ∃ v0, wr.cell? ⟨g, k, none⟩ = some v0 := ⟨cs[k], by rw [HBK.out.cell]; exact Array.getElem?_eq_getElem (by omega)⟩
          have hfr : wr.frozen? ⟨g, k, none⟩ = false := HBK.out.frozen k
          have hset2 := set_at cs k q (.string ⟨#[120]⟩) hcs hlt2 HS.out
          have HS2 := Lib.hid hset2; clear hset2 hcs
          go_wp2
          go_roundw
          case rel => exact ⟨k + 1, cs.setIfInBounds k (.string ⟨#[120]⟩), by omega, by go_num, by have := HCS.out; simpa using this, HS2.out, HBK.out.set_ _ _, HB.out.setCell hgw _⟩
          case measure => simp [intOf]; omega
        · have hkq2 : k = q := by omega
          subst hkq2
          have hr2 : Rd wr (g + 1) 1 (some ⟨g, 0, none⟩) k (strs (List.replicate k ⟨#[120]⟩)) := by
            exact ⟨by simp [strs], fun _ => ⟨g, 0, rfl, by omega, fun j u hu => by
            obtain ⟨hj, rfl⟩ := strs_rep_at hu
            rw [Nat.zero_add, HBK.out.cell, HS.out j hj]⟩⟩
          have hcn2 : Sp.chk (List.replicate k ⟨#[120]⟩) = (0, if k ≤ 127 then 0 else 11) := by rw [HCN.out]; split <;> rfl
          have HCN2 := Lib.hid hcn2; have HR2 := Lib.hid hr2
          clear hcn2 hr2 HCN HS HBK HCS hcs hmq HB1
          go_wp2_with fail
          have hck := check_any (some ⟨g, 0, none⟩) k (List.replicate k ⟨#[120]⟩) (g + 1) wr (by rw [List.length_replicate]; exact HR2.out) (by rw [List.length_replicate]; omega)
          rw [List.length_replicate, HCN2.out] at hck
          refine hck.mono ?_
          rintro e w' ⟨rfl, rfl⟩
          clear hck HR2 HCN2
          simp only
          generalize hF : (if k ≤ 127 then (0 : Int) else 11) = F
          have HF := Lib.hid hF; clear hF
          go_wp2_with fail
          refine (awake12_any _).mono ?_
          rintro e w' ⟨rfl, hbw⟩
          have HBA := Lib.hid (below_step HB.out hbw)
          clear HB hbw
          have hPp := HP.out; have hQq := HQ.out
          have hE := HE.out; have hF := HF.out
          clear HP HQ HE HF
          by_cases h1 : p ≤ 61
          · rw [if_pos h1] at hE
            have t1 : decide (60 + P0 ≤ 61) = true := by rw [decide_eq_true_iff]; omega
            have t2 : decide (61 < 60 + P0) = false := by rw [decide_eq_false_iff_not]; omega
            subst hE
            by_cases h2 : k ≤ 127
            · rw [if_pos h2] at hF
              have t3 : decide ((127 : Int) < (k : Int)) = false := by rw [decide_eq_false_iff_not]; omega
              subst hF
              clear hPp hQq
              go_wp2
              go_ret
              exact ⟨ret_bool' (by clear t1 t2 t3; simp <;> omega), HBA.out⟩
            · rw [if_neg h2] at hF
              have t3 : decide ((127 : Int) < (k : Int)) = true := by rw [decide_eq_true_iff]; omega
              subst hF
              clear hPp hQq
              go_wp2
              go_ret
              exact ⟨ret_bool' (by clear t1 t2 t3; simp <;> omega), HBA.out⟩
          · rw [if_neg h1] at hE
            have t1 : decide (60 + P0 ≤ 61) = false := by rw [decide_eq_false_iff_not]; omega
            have t2 : decide (61 < 60 + P0) = true := by rw [decide_eq_true_iff]; omega
            subst hE
            by_cases h2 : k ≤ 127
            · rw [if_pos h2] at hF
              have t3 : decide ((127 : Int) < (k : Int)) = false := by rw [decide_eq_false_iff_not]; omega
              subst hF
              clear hPp hQq
              go_wp2
              go_ret
              exact ⟨ret_bool' (by clear t1 t2 t3; simp <;> omega), HBA.out⟩
            · rw [if_neg h2] at hF
              have t3 : decide ((127 : Int) < (k : Int)) = true := by rw [decide_eq_true_iff]; omega
              subst hF
              clear hPp hQq
              go_wp2
              go_ret
              exact ⟨ret_bool' (by clear t1 t2 t3; simp <;> omega), HBA.out⟩
end Go.Proofs.Ytddlafcnfdohnaa
