/- The walk of request.Parse. -/
import Derived.Test.YtddieenjdaociaaGreatDoorM06
import Derived.Test.YtddieenjdaociaaGreatDoorRqGZ
import Derived.Laws.ResultCell
import Derived.Deep.DeepCutAuto
import Derived.Deep.CutBlock
namespace Go.Proofs.YtddieenjdaociaaGreatDoor
open Go Go.RowKit
set_option linter.unusedVariables false

/-- A request's cells. -/
def reqAgg (op ttl : Int) (A : Option Addr) (n c : Nat) : Array Value := #[.int .i64 op, .int .i64 ttl, .slice A n c]
/-- The call returns a request and a number; all that was there is as it was. -/
def RetReq (r : Rq.R) (w : World) (e : Ending) (w' : World) : Prop :=
  ∃ A n c, e = .returned (.tuple #[.agg (reqAgg r.op r.ttl A n c), .int .i64 r.err]) ∧ r.names.length = n ∧ w'.ownsRow w.heap.size 9 1 (.slice A n c) n (strs (r.names.map str)) ∧ Below w.heap.size w w'
theorem results_req {fn : Func} {p u : Tmp} (h : fn.results = #[.cell p 70, .tmp u]) (tmps : Array Value) (w : World) (g : Nat) (cs : Array Value) (hcs : cs.size = 3)
    (hp : tmps.getD p undef = .pointer (some ⟨g, 0, none⟩)) (hg : Bk w g 70 cs) : (results fn tmps).run Tryz.prog w = .ok (.tuple #[.agg cs, tmps.getD u undef]) w := by
  rw [results_cell_tmp h, hp]
  have hl := run_loadVar_row (P := Tryz.prog) w g 70 70 cs (0, 0) _ hg Tryz.underlying70 rfl (by rw [hcs]; kernel_rfl)
  simp [asAddr, Result.andThen, hl]
/-- The empty request and an error. -/
theorem RetReq.bad {r : Rq.R} {n : Int} {w w' : World} (hr : r = ⟨0, 0, [], n⟩) (hb : Below w.heap.size w w') : RetReq r w (.returned (.tuple #[.agg #[.int .i64 0, .int .i64 0, .slice none 0 0], .int .i64 n])) w' := by
  subst hr; exact ⟨none, 0, 0, rfl, rfl, World.ownsRow_nil _ _ _ _, hb⟩
/-- A row of strings with a head: where it lies. -/
theorem row_head {w : World} {base n c : Nat} {A : Option Addr} {h : ByteArray} {t : List ByteArray} (ho : w.ownsRow base 9 1 (.slice A (n + 1) c) (n + 1) (strs (h :: t))) :
    ∃ g, A = some ⟨g, 0, none⟩ ∧ base ≤ g ∧ g < w.heap.size ∧ n + 1 ≤ c ∧ w.cell? ⟨g, 0, none⟩ = some (.string h) := by
  have hcs := fun (g : Nat) => ho.cells (g := g)
  rcases ho.2 with ⟨_, h0⟩ | ⟨g, cap, cur, hv, hbg, hh, hnc, hcm, hsz, htk⟩
  · omega
  · injection hv with e1 e2 e3
    subst e1; subst e3
    exact ⟨g, rfl, hbg, (Array.getElem?_eq_some_iff.1 hh).1, hnc, hcs g rfl 0 _ rfl⟩
theorem size_str : ∀ w' : World, (sizeOf (Tryz.prog.elem 43)).run Tryz.prog w' = .ok 1 w' := by
  obtain ⟨i0, hi, hz0, hz1, hz2⟩ := info_parts info_str
  intro w'
  rw [show Tryz.prog.elem 43 = 9 by kernel_rfl]
  simp [sizeOf, typeInfo, hi, hz1]
/-- 'l[1:]' at []string. -/
theorem tail_any {w : World} {B g off n c : Nat} {l : List ByteArray} (hr : Rd w B 1 (some ⟨g, off, none⟩) (n + 1) (strs l)) (hc : n + 1 ≤ c) :
    ∃ A' c', (∀ w', (Instr.slice 43 (.slice (some ⟨g, off, none⟩) (n + 1) c) (some (.int .i64 1)) none none).run Tryz.prog w' = .ok (.slice A' n c') w') ∧ Rd w B 1 A' n (strs l.tail) ∧ n ≤ c' := by
  have ht : Tryz.prog.underlying 43 = some (.slice (Tryz.prog.elem 43)) := by kernel_rfl
  have e1 := fun w' => run_slice_l (P := Tryz.prog) (w := w') 43 (some ⟨g, off, none⟩) (n + 1) c ht .i64 1 (by omega) (by omega)
  have hll : l.length = n + 1 := by have := hr.1; rw [strs_length] at this; omega
  refine ⟨(if c = 1 then some ⟨g, off, none⟩ else (some (⟨g, off, none⟩ : Addr)).map (·.add (1 * 1))), c - 1, fun w' => ?_, ⟨?_, fun h0 => ?_⟩, by omega⟩
  · rw [e1, size_str]
    show Result.ok (sliced (some ⟨g, off, none⟩) ((1 : Int).toNat) (n + 1) c 1) w' = _
    unfold sliced
    rfl
  · rw [strs_length, List.length_tail]; omega
  · rw [strs_length, List.length_tail] at h0
    obtain ⟨b, o, h1, h2, h3⟩ := hr.2 (by rw [strs_length]; omega)
    injection h1 with h1; injection h1 with h1 h4; subst h1; subst h4
    refine ⟨g, off + 1, ?_, h2, fun j u hj => ?_⟩
    · rw [if_neg (by omega)]
      show some (Addr.add ⟨g, off, none⟩ (1 * 1)) = _
      rw [addp]
    · rw [Nat.add_assoc]
      refine h3 (1 + j) u ?_
      rw [strs_at] at hj ⊢
      rw [List.getElem?_tail] at hj
      rwa [Nat.add_comm 1 j]
theorem own_past {w w' : World} {base : Nat} {e : TypeId} {size : Nat} {v : Value} {n : Nat} {xs : List Value} (h : w.ownsRow base e size v n xs) (hb : Below w.heap.size w w') : w'.ownsRow base e size v n xs :=
  h.kept (only_below (only_refl w none) hb) (by cases v.ownBlock <;> simp)
theorem names_good {x : List UInt8} (r : List (List UInt8)) (h : (Rq.unquote x).2 = true) : Rq.names (x :: r) = (Rq.names r).map ((Rq.unquote x).1 :: ·) := by conv => lhs; unfold Rq.names; rw [if_pos h]
theorem names_bad {x : List UInt8} (r : List (List UInt8)) (h : (Rq.unquote x).2 = false) : Rq.names (x :: r) = none := by unfold Rq.names; rw [if_neg (by rw [h]; decide)]
theorem map_outs {o : Option (List (List UInt8))} (out : List (List UInt8)) (b : List UInt8) : (o.map (b :: ·)).map (out ++ ·) = o.map ((out ++ [b]) ++ ·) := by cases o <;> simp
theorem rest_bad {op n : Int} {l : List (List UInt8)} (h : Rq.names l = none) : Rq.rest op n l = ⟨0, 0, [], 4⟩ := by unfold Rq.rest; rw [h]
theorem rest_good {op n : Int} {l ns : List (List UInt8)} (h : Rq.names l = some ns) : Rq.rest op n l = if op = 7 ∧ ns.length ≠ 1 then ⟨0, 0, [], 4⟩ else if Rq.ttl op n then ⟨op, n, ns, 0⟩ else ⟨0, 0, [], 3⟩ := by unfold Rq.rest; rw [h]
/-- The empty request, written over the empty request. -/
theorem zero3 {w W : World} (hg : Bk W w.heap.size 70 #[.int .i64 0, .int .i64 0, .slice none 0 0]) (hb : Below w.heap.size w W) :
    Bk (((W.setCell ⟨w.heap.size, 0, none⟩ (.int .i64 0)).setCell ⟨w.heap.size, 1, none⟩ (.int .i64 0)).setCell ⟨w.heap.size, 2, none⟩ (.slice none 0 0)) w.heap.size 70 #[.int .i64 0, .int .i64 0, .slice none 0 0] ∧
    Below w.heap.size w (((W.setCell ⟨w.heap.size, 0, none⟩ (.int .i64 0)).setCell ⟨w.heap.size, 1, none⟩ (.int .i64 0)).setCell ⟨w.heap.size, 2, none⟩ (.slice none 0 0)) := by
  refine ⟨((hg.set_ 0 _).set_ 1 _).set_ 2 _, ?_⟩
  have h1 := hb.setCell (p := ⟨w.heap.size, 0, none⟩) (Nat.le_refl _) (.int .i64 0)
  have h2 := h1.setCell (p := ⟨w.heap.size, 1, none⟩) (Nat.le_refl _) (.int .i64 0)
  exact h2.setCell (p := ⟨w.heap.size, 2, none⟩) (Nat.le_refl _) (.slice none 0 0)
theorem words_in {op : Int} (h0 : op ≠ 0) (l : List (List UInt8)) : Rq.words op l = if Rq.timed op then (match l with
  | [] => ⟨0, 0, [], 4⟩
  | t :: r => match Rq.dec t with
    | none => ⟨0, 0, [], 4⟩
    | some n => Rq.rest op n r) else Rq.rest op 0 l := by
  unfold Rq.words; rw [if_neg h0]
  cases l with
  | nil => rfl
  | cons a b => cases h : Rq.dec a <;> simp [h]
theorem set3_ret {w W : World} {b5 j c' : Nat} {A' : Option Addr} {ns : List (List UInt8)} (hg : Bk W w.heap.size 70 #[.int .i64 0, .int .i64 0, .slice none 0 0]) (hb : Below w.heap.size w W)
    (ho : W.ownsRow (b5 + 1) 9 1 (.slice A' j c') j (strs (ns.map str))) (hlt : w.heap.size < b5) (hns : ns.length = j) (op ttl : Int) :
    Bk (((W.setCell ⟨w.heap.size, 0, none⟩ (.int .i64 op)).setCell ⟨w.heap.size, 1, none⟩ (.int .i64 ttl)).setCell ⟨w.heap.size, 2, none⟩ (.slice A' j c')) w.heap.size 70 #[.int .i64 op, .int .i64 ttl, .slice A' j c'] ∧
    RetReq ⟨op, ttl, ns, 0⟩ w (.returned (.tuple #[.agg #[.int .i64 op, .int .i64 ttl, .slice A' j c'], .int .i64 0])) (((W.setCell ⟨w.heap.size, 0, none⟩ (.int .i64 op)).setCell ⟨w.heap.size, 1, none⟩ (.int .i64 ttl)).setCell ⟨w.heap.size, 2, none⟩ (.slice A' j c')) := by
  refine ⟨((hg.set_ 0 _).set_ 1 _).set_ 2 _, A', j, c', rfl, hns, ?_, ?_⟩
  · have h1 := ownsRow_setCell_below ho (a := ⟨w.heap.size, 0, none⟩) (by show w.heap.size < _; omega) (.int .i64 op)
    have h2 := ownsRow_setCell_below h1 (a := ⟨w.heap.size, 1, none⟩) (by show w.heap.size < _; omega) (.int .i64 ttl)
    have h3 := ownsRow_setCell_below h2 (a := ⟨w.heap.size, 2, none⟩) (by show w.heap.size < _; omega) (.slice A' j c')
    exact own_low h3 (by omega)
  · have h1 := hb.setCell (p := ⟨w.heap.size, 0, none⟩) (Nat.le_refl _) (.int .i64 op)
    have h2 := h1.setCell (p := ⟨w.heap.size, 1, none⟩) (Nat.le_refl _) (.int .i64 ttl)
    exact h2.setCell (p := ⟨w.heap.size, 2, none⟩) (Nat.le_refl _) (.slice A' j c')
set_option maxRecDepth 100000 in
set_option maxHeartbeats 8000000 in
theorem parse_any (s : ByteArray) (w : World) : Calls Tryz.prog 83 #[.string s] w (RetReq (Rq.parse (lst s)) w) := by
  by_cases hlong : 4096 < s.size
  · have hp : Rq.parse (lst s) = ⟨0, 0, [], 7⟩ := by unfold Rq.parse; rw [if_pos (by rw [lst_length]; exact hlong)]
    have HP := Lib.hid hp; clear hp
    go_enter Tryz.func83, Tryz.ntmps83
    go_wp2
    refine bodyPost_ret (results_req (p := 2) (u := 3) rfl _ _ w.heap.size _ rfl rfl (Bk.new w _ _)) rfl (RetReq.bad HP.out ((Below.refl _ _).alloc (Nat.le_refl _) _))
  have hs : s.size ≤ 4096 := by omega
  have hpar : Rq.parse (lst s) = Rq.words (Rq.oper ((Rq.spl (lst s)).headD [])) (Rq.spl (lst s)).tail := by unfold Rq.parse; rw [if_neg (by rw [lst_length]; omega)]
  obtain ⟨hd, tl, hsp⟩ : ∃ hd tl, Rq.spl (lst s) = hd :: tl := by
    cases h : Rq.spl (lst s) with
    | nil => exact absurd h (Rq.spl_ne _)
    | cons a b => exact ⟨a, b, rfl⟩
  rw [hsp] at hpar
  have HPAR := Lib.hid (show Rq.parse (lst s) = Rq.words (Rq.oper hd) tl from hpar)
  have hst := split_any s (by omega)
  rw [hsp] at hst
  have HST := Lib.hid hst
  have hlen : tl.length ≤ 4096 := by have := Rq.spl_len (lst s); rw [hsp, lst_length] at this; simp at this; omega
  have hmem : ∀ x ∈ tl, x.length ≤ 4096 := by
    intro x hx
    have := Rq.spl_mem (lst s) x (by rw [hsp]; exact List.mem_cons_of_mem _ hx)
    rw [lst_length] at this; omega
  have HMEM := Lib.hid hmem
  clear hlong hpar hsp hst hmem
  go_enter Tryz.func83, Tryz.ntmps83
  go_wp2_with fail
  refine (HST.out _).mono ?_
  rintro e w2 ⟨A2, c2, rfl, ho2, hb2⟩
  have hg2 : w.heap.size < w2.heap.size := by have := hb2.size; simp at this; omega
  have HG := Lib.hid ((Bk.new w 70 #[.int .i64 0, .int .i64 0, .slice none 0 0]).below hb2 (by simp))
  have hn : (List.map str (hd :: tl)).length = tl.length + 1 := by simp
  rw [hn] at ho2 ⊢
  obtain ⟨ga, rfl, hga, hga2, hcap, hcell⟩ := row_head ho2
  obtain ⟨A3, c3, htail, hr3, hc3⟩ := tail_any (Rd.of_own ho2) hcap
  have HR3 := Lib.hid (show Rd w2 w2.heap.size 1 A3 tl.length (strs (tl.map str)) from hr3)
  have hga3 : w.heap.size < ga := by simp at hga; omega
  have HB2 := Lib.hid (((Below.refl w.heap.size w).alloc (Nat.le_refl _) (.cells #[.int .i64 0, .int .i64 0, .slice none 0 0] 70)).trans (hb2.mono (by simp)))
  clear ho2 hb2 hr3 hn hga
  go_wp2_with fail
  refine (operation_any (str hd) _).mono ?_
  rw [lst_str]
  rintro e w3 ⟨rfl, hb3⟩
  have HG3 := Lib.hid (HG.out.below hb3 hg2)
  have HR4 := Lib.hid (HR3.out.below hb3)
  have hsz3 := hb3.size
  have HB3 := Lib.hid (HB2.out.trans (hb3.mono (by omega)))
  clear hb3
  generalize hop : Rq.oper hd = op at *
  have hopb : 0 ≤ op ∧ op ≤ 7 := by rw [← hop]; unfold Rq.oper; repeat' split; all_goals omega
  clear hop
  have hg3 : w.heap.size < w3.heap.size := by omega
  have z0 : w3.cell? ⟨w.heap.size, 0, none⟩ = some (.int .i64 0) := HG3.out.cell 0
  have z1 : w3.cell? ⟨w.heap.size, 1, none⟩ = some (.int .i64 0) := HG3.out.cell 1
  have z2 : w3.cell? ⟨w.heap.size, 2, none⟩ = some (.slice none 0 0) := HG3.out.cell 2
  have y0 : w3.frozen? ⟨w.heap.size, 0, none⟩ = false := HG3.out.frozen 0
  have y1 : w3.frozen? ⟨w.heap.size, 1, none⟩ = false := HG3.out.frozen 1
  have y2 : w3.frozen? ⟨w.heap.size, 2, none⟩ = false := HG3.out.frozen 2
  by_cases hop0 : op = 0
  · subst hop0
    have hp : Rq.parse (lst s) = ⟨0, 0, [], 4⟩ := HPAR.out
    have HP := Lib.hid hp; clear hp
    go_wp2
    have hz := zero3 HG3.out HB3.out
    exact bodyPost_ret (results_req (p := 2) (u := 3) rfl _ _ w.heap.size _ rfl rfl (hz.1.alloc _)) rfl (RetReq.bad HP.out (hz.2.alloc (by simp; omega) _))
  · have hopn : (op == 0) = false := by simpa using hop0
    go_upto_if 31 with (refine (timed_any op _).mono ?_; rintro e w9 ⟨rfl, rfl⟩)
    go_cut [4] (fun vl wx => ∃ (ttl : Int) (L : List (List UInt8)) (A : Option Addr) (n c : Nat), vl = .slice A n c ∧ n ≤ c ∧ L.length = n ∧ Bk wx w3.heap.size 70 #[.int .i64 op, .int .i64 ttl, .slice none 0 0] ∧ Bk wx w.heap.size 70 #[.int .i64 0, .int .i64 0, .slice none 0 0] ∧
      Rd wx w3.heap.size 1 A n (strs (L.map str)) ∧ Below w.heap.size w wx ∧ w3.heap.size < wx.heap.size ∧ Rq.parse (lst s) = Rq.rest op ttl L ∧ n ≤ 5000 ∧ (∀ x ∈ L, x.length ≤ 4096))
    case first =>
      have hw := words_in hop0 tl
      have hb0 := HG3.out.lt
      cases ht : Rq.timed op
      · rw [ht] at hw
        have HW := Lib.hid (HPAR.out.trans hw); clear hw
        go_wp2_with fail
        go_meet
        case rel => exact ⟨0, tl, A3, tl.length, c3, rfl, hc3, rfl, Bk.new _ _ _, HG3.out.alloc _, (HR4.out.more hsz3).alloc (Nat.le_refl _) _, HB3.out.alloc (by omega) _, by simp, HW.out, by omega, HMEM.out⟩
      · rw [ht, if_pos rfl] at hw
        cases tl with
        | nil =>
          have HP := Lib.hid (show Rq.parse (lst s) = ⟨0, 0, [], 4⟩ from HPAR.out.trans hw); clear hw
          go_wp2
          have hz := zero3 HG3.out HB3.out
          exact bodyPost_ret (results_req (p := 2) (u := 3) rfl _ _ w.heap.size _ rfl rfl (hz.1.alloc _)) rfl (RetReq.bad HP.out (hz.2.alloc (by simp; omega) _))
        | cons t r =>
          have HW := Lib.hid (HPAR.out.trans hw); clear hw
          have htl := HMEM.out t (List.mem_cons_self ..)
          have hll : (t :: r).length = r.length + 1 := rfl
          rw [hll] at *
          obtain ⟨b, off, rfl, hbb, hcs⟩ := HR4.out.2 (by simp [strs])
          have hc0 : w3.cell? ⟨b, off, none⟩ = some (.string (str t)) := hcs 0 _ rfl
          have hbw : b < w3.heap.size := by omega
          obtain ⟨A5, c5, htail5, hr5, hc5⟩ := tail_any HR4.out hc3
          have HR5 := Lib.hid (show Rd w3 w2.heap.size 1 A5 r.length (strs (r.map str)) from hr5)
          clear hcs hr5 hll
          go_wp2_with fail
          refine (decimal_any (str t) (by rw [str_size]; omega) _).mono ?_
          rw [lst_str]
          rintro e w5 ⟨rfl, hb5⟩
          have hb4s : w.heap.size < (w3.alloc (.cells #[.int .i64 op, .int .i64 0, .slice none 0 0] 70)).heap.size := by simp; omega
          have HG5 := Lib.hid ((HG3.out.alloc (.cells #[.int .i64 op, .int .i64 0, .slice none 0 0] 70)).below hb5 hb4s)
          have HK5 := Lib.hid ((Bk.new w3 70 #[.int .i64 op, .int .i64 0, .slice none 0 0]).below hb5 (by simp))
          have HB5 := Lib.hid ((HB3.out.alloc (by omega) (.cells #[.int .i64 op, .int .i64 0, .slice none 0 0] 70)).trans (hb5.mono (by omega)))
          have HR6 := Lib.hid (((HR5.out.more hsz3).alloc (Nat.le_refl _) (.cells #[.int .i64 op, .int .i64 0, .slice none 0 0] 70)).below (hb5.mono (by simp)))
          have hsz5 : w3.heap.size < w5.heap.size := by have := hb5.size; simp at this; omega
          clear hb5 hb4s z0 z1 z2 y0 y1 y2
          cases hdec : Rq.dec t with
          | none =>
            have hw := HW.out
            try simp only at hw
            rw [hdec] at hw
            have HP := Lib.hid (show Rq.parse (lst s) = ⟨0, 0, [], 4⟩ from hw); clear hw
            unfold decRet
            have z0 : w5.cell? ⟨w.heap.size, 0, none⟩ = some (.int .i64 0) := HG5.out.cell 0
            have z1 : w5.cell? ⟨w.heap.size, 1, none⟩ = some (.int .i64 0) := HG5.out.cell 1
            have z2 : w5.cell? ⟨w.heap.size, 2, none⟩ = some (.slice none 0 0) := HG5.out.cell 2
            have y0 : w5.frozen? ⟨w.heap.size, 0, none⟩ = false := HG5.out.frozen 0
            have y1 : w5.frozen? ⟨w.heap.size, 1, none⟩ = false := HG5.out.frozen 1
            have y2 : w5.frozen? ⟨w.heap.size, 2, none⟩ = false := HG5.out.frozen 2
            go_wp2
            have hz := zero3 HG5.out HB5.out
            exact bodyPost_ret (results_req (p := 2) (u := 3) rfl _ _ w.heap.size _ rfl rfl hz.1) rfl (RetReq.bad HP.out hz.2)
          | some n =>
            have hw := HW.out
            try simp only at hw
            rw [hdec] at hw
            have HP := Lib.hid (show Rq.parse (lst s) = Rq.rest op n r from hw); clear hw
            unfold decRet
            have k1 : w5.cell? ⟨w3.heap.size, 1, none⟩ = some (.int .i64 0) := HK5.out.cell 1
            have f1 : w5.frozen? ⟨w3.heap.size, 1, none⟩ = false := HK5.out.frozen 1
            go_wp2_with fail
            refine wp_region_any (by kernel_rfl) ?_
            change wpAny _ _ _ _ 6 #[false, false, false, false, false, false] _ (World.drew _)
            refine wpAny_take (i := 0) (v := .int .i64 n) rfl (by kernel_rfl) (by kernel_rfl) (by kernel_rfl) (fun _ _ _ h => h) (Or.inl ⟨by rfl, fun w => ?_⟩) ?_
            · go_simp
            try simp only [Act.put, List.setIfInBounds_toArray, List.set_cons_zero, List.set_cons_succ]
            refine wpAny_take (i := 1) (v := .slice (some ⟨b, off, none⟩) (r.length + 1) c3) rfl (by kernel_rfl) (by kernel_rfl) (by kernel_rfl) (fun _ _ _ h => h) (Or.inl ⟨by rfl, fun w => ?_⟩) ?_
            · go_simp
            try simp only [Act.put, List.setIfInBounds_toArray, List.set_cons_zero, List.set_cons_succ]
            refine wpAny_take (i := 2) (v := .slice A5 r.length c5) rfl (by kernel_rfl) (by kernel_rfl) (by kernel_rfl) (fun _ _ _ h => h) (Or.inl ⟨by rfl, fun w => ?_⟩) ?_
            · go_simp
            try simp only [Act.put, List.setIfInBounds_toArray, List.set_cons_zero, List.set_cons_succ]
            refine wpAny_take (i := 3) (v := .pointer (some ⟨w3.heap.size, 1, none⟩)) rfl (by kernel_rfl) (by kernel_rfl) (by kernel_rfl) (fun _ _ _ h => h) (Or.inl ⟨by rfl, fun w => ?_⟩) ?_
            · go_simp
            try simp only [Act.put, List.setIfInBounds_toArray, List.set_cons_zero, List.set_cons_succ]
            refine wpAny_ready (rs := [4]) (by kernel_rfl) (by simp) ?_
            refine AllReady.cons rfl (fun K hK => ?_) AllReady.nil
            go_simp
            refine hK _ _ ?_
            clear hK K
            try simp only [Act.put, List.setIfInBounds_toArray, List.set_cons_zero, List.set_cons_succ]
            refine wpAny_ready (rs := [5]) (by kernel_rfl) (by simp) ?_
            refine AllReady.cons rfl (fun K hK => ?_) AllReady.nil
            go_simp
            refine hK _ _ ?_
            clear hK K
            try simp only [Act.put, List.setIfInBounds_toArray, List.set_cons_zero, List.set_cons_succ]
            refine wpAny_done (by kernel_rfl) ?_ _
            go_step
            go_wp2_with fail
            go_meet
            case rel => exact ⟨n, r, A5, r.length, c5, rfl, hc5, rfl, HK5.out.drew.set_ 1 (.int .i64 n), HG5.out.drew.far (by simp; omega) _, HR6.out.drew.setCell (Nat.le_refl _) _, HB5.out.drew.setCell (by simp; omega) _, by simp; omega, HP.out, by simp at hlen; omega, fun x hx => HMEM.out x (List.mem_cons_of_mem _ hx)⟩
    case rest =>
      obtain ⟨ttl, L, A, n, c, rfl, hnc, hL, hk5, hg, hr, hb, hgw, hpar, hn5, hm⟩ := hcut
      have HK := Lib.hid hk5; have HG := Lib.hid hg; have HR := Lib.hid hr; have HB := Lib.hid hb; have HP := Lib.hid hpar; have HL := Lib.hid hL; have HM := Lib.hid hm
      have hg25 : w.heap.size < w3.heap.size := hg3
      clear hk5 hg hr hb hpar hL hm z0 z1 z2 y0 y1 y2 HPAR HMEM hlen HST
      go_wp2_with fail
      go_loopw [52] (fun vj wr => ∃ (j : Nat) (ns : List (List UInt8)) (A' : Option Addr) (c' : Nat), j ≤ n ∧ vj = .int .i64 j ∧ ns.length = j ∧ Bk wr w3.heap.size 70 #[.int .i64 op, .int .i64 ttl, .slice A' j c'] ∧
        wr.ownsRow (w3.heap.size + 1) 9 1 (.slice A' j c') j (strs (ns.map str)) ∧ Below w3.heap.size wc wr ∧ Rq.names L = (Rq.names (L.drop j)).map (ns ++ ·)) (fun vj _ => n - (intOf vj).toNat)
      case atStart => exact ⟨0, [], none, 0, by omega, rfl, rfl, HK.out, World.ownsRow_nil _ _ _ _, Below.refl _ _, by rw [List.drop_zero]; cases Rq.names L <;> simp⟩
      case round =>
        obtain ⟨j, ns, A', c', hj, rfl, hns, hk, ho, hbw, hnm⟩ := hrel
        have HK2 := Lib.hid hk; have HO := Lib.hid ho; have HB2 := Lib.hid hbw; have HN := Lib.hid hnm; have HNS := Lib.hid hns
        have hsz := hbw.size
        have hgr : w3.heap.size < wr.heap.size := by omega
        have HG2 := Lib.hid (HG.out.below hbw hg25)
        have HR2 := Lib.hid (HR.out.below hbw)
        have HBW := Lib.hid (HB.out.trans (hbw.mono (by omega)))
        have z0 : wr.cell? ⟨w.heap.size, 0, none⟩ = some (.int .i64 0) := HG2.out.cell 0
        have z1 : wr.cell? ⟨w.heap.size, 1, none⟩ = some (.int .i64 0) := HG2.out.cell 1
        have z2 : wr.cell? ⟨w.heap.size, 2, none⟩ = some (.slice none 0 0) := HG2.out.cell 2
        have y0 : wr.frozen? ⟨w.heap.size, 0, none⟩ = false := HG2.out.frozen 0
        have y1 : wr.frozen? ⟨w.heap.size, 1, none⟩ = false := HG2.out.frozen 1
        have y2 : wr.frozen? ⟨w.heap.size, 2, none⟩ = false := HG2.out.frozen 2
        clear hk ho hbw hnm hns
        by_cases hlt : j < n
        · obtain ⟨x, hx⟩ : ∃ x, L[j]? = some x := ⟨_, List.getElem?_eq_getElem (by have := HL.out; omega)⟩
          have hxm := HM.out x (List.mem_of_getElem? hx)
          obtain ⟨b, off, rfl, hbb, hcs⟩ := HR2.out.2 (by rw [strs_length, List.length_map, HL.out]; omega)
          have hc : wr.cell? ⟨b, off + j, none⟩ = some (.string (str x)) := hcs j _ (by rw [strs_at, List.getElem?_map, hx]; rfl)
          have hdj : L.drop j = x :: L.drop (j + 1) := by
            obtain ⟨h2, h3⟩ := List.getElem?_eq_some_iff.1 hx
            rw [List.drop_eq_getElem_cons h2, h3]
          have HDJ := Lib.hid hdj
          clear hcs hdj hx
          go_wp2_with fail
          refine (unquote_any (str x) (by rw [str_size]; omega) _).mono ?_
          rw [lst_str]
          rintro e w6 ⟨rfl, hb6⟩
          have hsz6 := hb6.size
          have HG6 := Lib.hid (HG2.out.below hb6 (by omega))
          have HK6 := Lib.hid (HK2.out.below hb6 hgr)
          have HO6 := Lib.hid (own_past HO.out hb6)
          have HB6 := Lib.hid (HBW.out.trans (hb6.mono (by omega)))
          have HC6 := Lib.hid (HB2.out.trans (hb6.mono (by omega)))
          unfold unqVal
          clear z0 z1 z2 y0 y1 y2 hb6
          cases hq : (Rq.unquote x).2
          · have hre := rest_bad (op := op) (n := ttl) (show Rq.names L = none by rw [HN.out, HDJ.out, names_bad _ hq]; rfl)
            have HE := Lib.hid (HP.out.trans hre)
            have z0 : w6.cell? ⟨w.heap.size, 0, none⟩ = some (.int .i64 0) := HG6.out.cell 0
            have z1 : w6.cell? ⟨w.heap.size, 1, none⟩ = some (.int .i64 0) := HG6.out.cell 1
            have z2 : w6.cell? ⟨w.heap.size, 2, none⟩ = some (.slice none 0 0) := HG6.out.cell 2
            have y0 : w6.frozen? ⟨w.heap.size, 0, none⟩ = false := HG6.out.frozen 0
            have y1 : w6.frozen? ⟨w.heap.size, 1, none⟩ = false := HG6.out.frozen 1
            have y2 : w6.frozen? ⟨w.heap.size, 2, none⟩ = false := HG6.out.frozen 2
            clear hre hq
            go_wp2
            have hz := zero3 HG6.out HB6.out
            exact bodyPost_ret (results_req (p := 2) (u := 3) rfl _ _ w.heap.size _ rfl rfl hz.1) rfl (RetReq.bad HE.out hz.2)
          · have hn2 : Rq.names L = (Rq.names (L.drop (j + 1))).map ((ns ++ [(Rq.unquote x).1]) ++ ·) := by rw [HN.out, HDJ.out, names_good _ hq, map_outs]
            have HN2 := Lib.hid hn2
            have k2 : w6.cell? ⟨w3.heap.size, 2, none⟩ = some (.slice A' j c') := HK6.out.cell 2
            clear hn2 hq
            generalize (Rq.unquote x).1 = y at *
            go_wp2_with (at_builtin; refine app_str (by rfl) _ _ rfl (base := w3.heap.size + 1) rfl (HO6.out.alloc _) rfl (rd_one_str w6 (str y)) (by omega) (by simp <;> omega) ?_)
            intro A8 c8 w8 ho8 hg8 hc8
            have HB8 := Lib.hid (own_below (own_low HO6.out (Nat.le_succ _)) HC6.out _ hg8 (by omega))
            have hwl : (ns ++ [y]).map str = ns.map str ++ [str y] := by simp
            have HO8 := Lib.hid (show w8.ownsRow (w3.heap.size + 1) 9 1 (.slice A8 (j + 1) c8) (j + 1) (strs ((ns ++ [y]).map str)) by rw [hwl]; exact ho8)
            have HK8 := Lib.hid ((HK6.out.alloc _).grown hg8 (by intro e; have := (HO6.out.lt _ e.symm).1; omega))
            have k28 : w8.cell? ⟨w3.heap.size, 2, none⟩ = some (.slice A' j c') := HK8.out.cell 2
            have f28 : w8.frozen? ⟨w3.heap.size, 2, none⟩ = false := HK8.out.frozen 2
            clear ho8 hg8 hc8 hwl
            go_wp2
            go_roundw
            case rel => exact ⟨j + 1, ns ++ [y], A8, c8, by omega, by go_num, by simp; exact HNS.out, HK8.out.set_ 2 _, ownsRow_setCell_below HO8.out (by simp) _, HB8.out.setCell (Nat.le_refl _) _, HN2.out⟩
            case measure => simp [intOf]; omega
        · have k0 : wr.cell? ⟨w3.heap.size, 0, none⟩ = some (.int .i64 op) := HK2.out.cell 0
          have k1 : wr.cell? ⟨w3.heap.size, 1, none⟩ = some (.int .i64 ttl) := HK2.out.cell 1
          have k2 : wr.cell? ⟨w3.heap.size, 2, none⟩ = some (.slice A' j c') := HK2.out.cell 2
          have hd : L.drop j = [] := List.drop_of_length_le (by have := HL.out; omega)
          have hnm : Rq.names L = some ns := by rw [HN.out, hd]; simp [Rq.names]
          have hrest := rest_good (op := op) (n := ttl) hnm
          have HRE := Lib.hid (HP.out.trans hrest)
          have hnl := HNS.out
          clear hd hnm hrest
          by_cases h7 : op = 7 ∧ ns.length ≠ 1
          · have hre := HRE.out
            rw [if_pos h7] at hre
            have HE := Lib.hid hre
            obtain ⟨h7a, h7b⟩ := h7
            have hj1 : ((j : Int) != 1) = true := by rw [bne_iff_ne]; omega
            subst h7a
            clear hre
            go_wp2
            have hz := zero3 HG2.out HBW.out
            exact bodyPost_ret (results_req (p := 2) (u := 3) rfl _ _ w.heap.size _ rfl rfl hz.1) rfl (RetReq.bad HE.out hz.2)
          · have hre := HRE.out
            rw [if_neg h7] at hre
            have HE := Lib.hid hre
            have hcond : (op = 7 ∧ ((j : Int) != 1) = false) ∨ (op == 7) = false := by
              by_cases h : op = 7
              · left
                refine ⟨h, ?_⟩
                have : ns.length = 1 := by
                  by_cases h1 : ns.length = 1
                  · exact h1
                  · exact absurd ⟨h, h1⟩ h7
                rw [← hnl, this]; rfl
              · right; simpa using h
            have HT := Lib.hid (ttl_any op ttl)
            clear hre h7 hopn hopb hop0
            rcases hcond with ⟨rfl, h1⟩ | h1
            all_goals
              go_wp2_with fail
              refine (HT.out _).mono ?_
              rintro e w9 ⟨rfl, rfl⟩
              clear h1
              cases htt : Rq.ttl _ ttl
              · have he := HE.out
                rw [htt] at he
                have HE2 := Lib.hid (show Rq.parse (lst s) = ⟨0, 0, [], 3⟩ from he)
                clear he htt
                go_wp2
                have hz := zero3 HG2.out HBW.out
                exact bodyPost_ret (results_req (p := 2) (u := 3) rfl _ _ w.heap.size _ rfl rfl hz.1) rfl (RetReq.bad HE2.out hz.2)
              · have he := HE.out
                rw [htt, if_pos rfl] at he
                have HE2 := Lib.hid he
                clear he htt
                go_wp2
                have h3 := fun o => set3_ret HG2.out HBW.out HO.out (by omega) HNS.out o ttl
                refine bodyPost_ret (results_req (p := 2) (u := 3) rfl _ _ w.heap.size _ rfl rfl (h3 _).1) rfl ?_
                rw [HE2.out]
                exact (h3 _).2
end Go.Proofs.YtddieenjdaociaaGreatDoor
