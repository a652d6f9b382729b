/- The walk of alabel.Encode. -/
import Derived.Test.YtoihjbiahccaaaaAlLow
import Derived.Deep.AppendSrc
namespace Go.Proofs.Ytoihjbiahccaaaa
open Go Go.RowKit
set_option linter.unusedVariables false

def Al.lab (l : List Int) : List UInt8 × Int :=
  if l.length = 0 then ([], 10) else if Al.ascii l then (if 63 < l.length then ([], 11) else (l.map Pn.byte, 0))
  else if (Pn.encP l).2 = 0 then (if 63 < 4 + (Pn.encP l).1.length then ([], 11) else ([120, 110, 45, 45] ++ (Pn.encP l).1, 0)) else ([], (Pn.encP l).2)
theorem bytecells_is (s : ByteArray) : byteCells s = bys (lst s) := by unfold byteCells bys lst; rfl
theorem conv_mark (w : World) (C : Array Value) (n : Nat) : (convert 38 38 (.slice (some ⟨w.heap.size, 0, none⟩) n n)).run Try.prog (w.alloc (.cells C 5)) =
    .ok (.slice (some ⟨w.heap.size, 0, none⟩) n n) (w.alloc (.cells C 5 (C.size, C.size + 1))) := by
  have hsh : (w.alloc (.cells C 5)).shape? w.heap.size = some (5, C.size) := by
    have : (w.alloc (.cells C 5)).heap[w.heap.size]? = some (.cells C 5) := by
      show (w.heap.push (.cells C 5))[w.heap.size]? = _
      simp
    unfold World.shape?
    rw [this]
  have hm : ∀ (a : Array Obj) (x : Obj) (f : Obj → Obj), (a.push x).modify a.size f = a.push (f x) := by
    intro a x f
    apply Array.ext
    · simp
    · intro i h1 h2
      simp only [Array.getElem_modify, Array.getElem_push]
      by_cases h : a.size = i
      · subst h
        simp
      · have hi : i < a.size := by simp at h1; omega
        simp [h, hi]
  have hfr : (w.alloc (.cells C 5)).freeze ⟨w.heap.size, C.size, none⟩ 1 = w.alloc (.cells C 5 (C.size, C.size + 1)) := by
    unfold World.freeze
    rw [if_neg (by decide)]
    show ({ w.alloc (.cells C 5) with heap := (w.heap.push (.cells C 5)).modify w.heap.size _ } : World) = _
    rw [hm]
    rfl
  simp [convert, run_underlying Try.underlying38, run_underlying Try.underlying5, markStringish, hsh]
  exact hfr
/-- The block g holds "xn--". -/
def Xn (w : World) (g : Nat) : Prop := g < w.heap.size ∧ ∀ j v, (bys [120, 110, 45, 45])[j]? = some v → w.cell? ⟨g, j, none⟩ = some v
theorem Xn.new (w : World) (fr : Nat × Nat) : Xn (w.alloc (.cells #[.int .u8 120, .int .u8 110, .int .u8 45, .int .u8 45] 5 fr)) w.heap.size := by
  refine ⟨by simp, fun j v hj => ?_⟩
  rw [World.cell?_alloc_mark, ← Array.getElem?_toList]; exact hj
theorem pre_run (w : World) (g : Nat) (ty : TypeId) (hb : Xn w g) (s : List UInt8) (hs0 : s ≠ []) (hs : s.length ≤ 1000000) (base : Nat) (hg : base ≤ w.heap.size) :
    ∃ A c w', (Builtin.append_ #[38, 9] ty #[.slice (some ⟨g, 0, none⟩) 4 4, .string (str s)]).run Try.prog w = .ok (.slice A (4 + s.length) c) w' ∧
      w'.ownsRow base 5 1 (.slice A (4 + s.length) c) (4 + s.length) (bys ([120, 110, 45, 45] ++ s)) ∧ Below base w w' := by
  obtain ⟨i0, hi, hz0, hz1, hz2⟩ := info_parts info_u8
  have hpos : 0 < s.length := List.length_pos_iff.2 hs0
  have hS : Go.Src Try.prog i0.size 9 (.string (str s)) s.length (bys s) w := by
    rw [hz1]
    have := Go.Src.ofString (P := Try.prog) (w := w) Try.underlying9 (str s)
    rw [bytecells_is, lst_str, str_size] at this
    exact this
  have hold : (Builtin.firstCells i0.size 4 (.slice (some ⟨g, 0, none⟩) 4 4)).run Try.prog w.drew = .ok (bys [120, 110, 45, 45]).toArray w.drew := by
    rw [hz1]
    exact run_firstCells_some w.drew 1 4 ⟨g, 0, none⟩ 4 4 (bys [120, 110, 45, 45]) rfl (fun j v hj => by rw [addp, Nat.zero_add]; exact hb.2 j v hj)
  have hr := run_append_grow_src (P := Try.prog) (w := w) 38 9 ty 5 i0 _ Try.underlying38 hi hz0 (some ⟨g, 0, none⟩) 4 4 (bys [120, 110, 45, 45]) hold (.string (str s)) s.length (bys s) hS (by omega) (by omega) (by rw [hz2]; exact growslice_fits (by omega) (by omega))
  have hge := grownCap_ge w (4 + s.length) 4 5
  have hcm := grownCap_le_maxLen w (4 + s.length) 4 5 (by unfold maxLen; omega)
  refine ⟨_, _, _, hr, ?_, ((Below.refl base w).drew).alloc hg _⟩
  generalize grownCap w (4 + s.length) 4 5 = G at *
  have hnew := heap_alloc_new w.drew (.cells ((bys [120, 110, 45, 45] ++ bys s).toArray ++ Builtin.zeroCells (Value.int .u8 0).cells (G - (4 + s.length))) 5)
  refine own_of_cells hg hnew hge hcm ?_ (by rw [bys_length, List.length_append]; rfl) ?_
  · simp only [Array.size_append, List.size_toArray, size_zeroCells, List.length_append, bys_length]
    simp [Value.cells]; omega
  · intro j v hj
    have hc := cell_of_row _ w.drew.heap.size j _ _ (0, 0) hnew
    have hjl := (List.getElem?_eq_some_iff.1 hj).1
    rw [bys_length, List.length_append] at hjl
    show (w.drew.alloc _).cell? ⟨w.drew.heap.size, j, none⟩ = _
    rw [hc, Array.getElem?_append_left (by simp [bys_length]; simp at hjl; omega), List.getElem?_toArray, ← bys_append]
    exact hj
theorem app_pre {w : World} {ops : Array Oper} {rest : List Oper} {o : Oper} {a : Act} {Q : Exit → Act → World → Prop} (hw : Region.wanted o (yielded ops a.tmps) = true) (sl x : Operand)
    (ho : o.op = .call { callee := .builtin .append, args := #[sl, x], argTypes := #[38, 9] })
    {g : Nat} {s : List UInt8} (hs : a.eval sl = .slice (some ⟨g, 0, none⟩) 4 4) (hx : a.eval x = .string (str s)) (hb : Xn w g) (hs0 : s ≠ []) (hl : s.length ≤ 1000000) (base : Nat) (hg : base ≤ w.heap.size)
    (h : ∀ A c w', w'.ownsRow base 5 1 (.slice A (4 + s.length) c) (4 + s.length) (bys ([120, 110, 45, 45] ++ s)) → Below base w w' → wpList Try.prog ops Q rest (a.put o.dst (.slice A (4 + s.length) c)) w') :
    wpList Try.prog ops Q (o :: rest) a w := by
  obtain ⟨A, c, w', hrun, h2, h3⟩ := pre_run w g o.type hb s hs0 hl base hg
  refine wpList_step fun K hK => ?_
  rw [if_pos hw]
  unfold Oper.wp execOp
  simp only [ho, resolve, invoke, builtin, Sem.run_bind, Sem.run_pure, Result.andThen_ok, List.map_toArray, List.map_cons, List.map_nil, hs, hx, hrun]
  exact hK _ _ (h A c w' h2 h3)
theorem Al.lab_nil {l : List Int} (h : l.length = 0) : Al.lab l = ([], 10) := by unfold Al.lab; rw [if_pos h]
theorem Al.lab_asc {l : List Int} (h : ¬ l.length = 0) (ha : Al.ascii l = true) : Al.lab l = if 63 < l.length then ([], 11) else (l.map Pn.byte, 0) := by unfold Al.lab; rw [if_neg h, if_pos ha]
theorem Al.lab_bad {l : List Int} (h : ¬ l.length = 0) (ha : Al.ascii l = false) (he : ¬ (Pn.encP l).2 = 0) : Al.lab l = ([], (Pn.encP l).2) := by unfold Al.lab; rw [if_neg h, ha, if_neg (by simp), if_neg he]
theorem Al.lab_puny {l : List Int} (h : ¬ l.length = 0) (ha : Al.ascii l = false) (he : (Pn.encP l).2 = 0) : Al.lab l = if 63 < 4 + (Pn.encP l).1.length then ([], 11) else ([120, 110, 45, 45] ++ (Pn.encP l).1, 0) := by unfold Al.lab; rw [if_neg h, ha, if_neg (by simp), if_pos he]
theorem encP_small {l : List Int} (he : (Pn.encP l).2 = 0) : (Pn.encP l).1.length ≤ 10000 := by
  unfold Pn.encP at he ⊢
  by_cases h : 256 < l.length
  · rw [if_pos h] at he; simp at he
  · rw [if_neg h] at he ⊢
    by_cases ha : l.all Pn.scalar = true
    · rw [if_pos ha]
      have := Pn.enc_len l (fun c hc => (Pn.scalar_bd (List.all_eq_true.1 ha c hc)).2) (by omega)
      show (Pn.enc l).length ≤ _
      omega
    · rw [if_neg ha] at he; simp at he
theorem encP_ne {l : List Int} (he : (Pn.encP l).2 = 0) (h0 : ¬ l.length = 0) : (Pn.encP l).1 ≠ [] := by
  unfold Pn.encP at he ⊢
  by_cases h : 256 < l.length
  · rw [if_pos h] at he; simp at he
  · rw [if_neg h] at he ⊢
    by_cases ha : l.all Pn.scalar = true
    · rw [if_pos ha]
      intro e
      have e' : Pn.enc l = [] := e
      have := Pn.decP_back l ha (by omega) (by rw [e']; simp)
      rw [e'] at this
      have h2 : Pn.decP [] = ([], 0) := by decide +kernel
      rw [h2] at this
      injection this with this
      rw [← this] at h0; simp at h0
    · rw [if_neg ha] at he; simp at he
set_option maxRecDepth 100000 in
set_option maxHeartbeats 8000000 in
theorem label_any (A : Option Addr) (c : Nat) (l : List Int) (B : Nat) (w : World) (hr : Rd w B 1 A l.length (ints l)) (hBw : B ≤ w.heap.size) (hl : l.length ≤ 17592186044000) :
    Calls Try.prog 27 #[.slice A l.length c] w fun e w' => e = .returned (.tuple #[.string (str (Al.lab l).1), .int .i64 (Al.lab l).2]) ∧ Below w.heap.size w w' := by
  by_cases h0 : l.length = 0
  · rw [Al.lab_nil h0]
    have h0i : ((l.length : Int) == 0) = true := by simp [h0]
    go_enter Try.func27, Try.ntmps27
    go_wp2
    go_ret2
    exact ⟨rfl, Below.refl _ _⟩
  have h0i : ((l.length : Int) == 0) = false := by rw [beq_eq_false_iff_ne]; omega
  have hlen0 : 0 < l.length := by omega
  have HR := Lib.hid hr; clear hr
  have H0 := Lib.hid h0; clear h0
  have hac := ascii_any A c l B w HR.out (by omega)
  cases ha : Al.ascii l
  · have HLB := Lib.hid (fun he => Al.lab_bad H0.out ha he)
    have HLP := Lib.hid (fun he => Al.lab_puny H0.out ha he)
    rw [ha] at hac
    have HAC := Lib.hid hac; clear hac ha
    go_enter Try.func27, Try.ntmps27
    go_wp2_with fail
    refine HAC.out.mono ?_
    rintro e w1 ⟨rfl, hw1⟩
    subst hw1
    go_wp2_with fail
    refine (encode_any A c l B w HR.out hBw (by omega)).mono ?_
    rintro e w2 ⟨rfl, hb⟩
    have HB := Lib.hid hb
    have hsz := hb.size
    clear hb
    by_cases he : (Pn.encP l).2 = 0
    · have hl1 := HLP.out he
      have hsm := encP_small he
      have hmn := encP_ne he H0.out
      rw [he]
      generalize (Pn.encP l).1 = M at *
      have HL1 := Lib.hid hl1; have HMN := Lib.hid hmn
      clear hl1 he HLB HLP hmn
      have HBK := Lib.hid (Xn.new w2 (4, 5))
      have HBA := Lib.hid (HB.out.alloc hsz (.cells #[.int .u8 120, .int .u8 110, .int .u8 45, .int .u8 45] 5 (4, 5)))
      have hcvm : (convert 38 38 (.slice (some ⟨w2.heap.size, 0, none⟩) 4 4)).run Try.prog (w2.alloc (.cells #[.int .u8 120, .int .u8 110, .int .u8 45, .int .u8 45] 5)) = .ok (.slice (some ⟨w2.heap.size, 0, none⟩) 4 4) (w2.alloc (.cells #[.int .u8 120, .int .u8 110, .int .u8 45, .int .u8 45] 5 (4, 5))) := conv_mark w2 _ 4
      go_wp2_with (at_builtin; refine app_pre (by rfl) _ _ rfl rfl rfl HBK.out HMN.out (by omega) w.heap.size (by simp; omega) ?_)
      intro A3 c3 w3 ho3 hb3
      have HO3 := Lib.hid ho3; have HB3 := Lib.hid (HBA.out.trans hb3)
      clear ho3 hb3
      by_cases h63 : 63 < 4 + M.length
      · have hl2 := HL1.out
        rw [if_pos h63] at hl2
        have HL2 := Lib.hid hl2; clear hl2
        have h63i : (63 : Int) < 4 + (M.length : Int) := by omega
        go_wp2
        go_ret2
        exact ⟨by rw [HL2.out]; rfl, HB3.out⟩
      · have hl2 := HL1.out
        rw [if_neg h63] at hl2
        have HL2 := Lib.hid hl2; clear hl2
        have hcv := conv_row HO3.out
        have h63i : ¬ ((63 : Int) < 4 + (M.length : Int)) := by omega
        go_wp2
        go_ret2
        exact ⟨by rw [HL2.out]; rfl, HB3.out⟩
    · have hl1 := HLB.out he
      generalize (Pn.encP l).1 = M at *
      generalize (Pn.encP l).2 = er at *
      have HL1 := Lib.hid hl1
      have hne : (er != 0) = true := by simpa using he
      clear hl1 HLB HLP he
      go_wp2
      go_ret2
      exact ⟨by rw [HL1.out]; rfl, HB.out⟩
  · have hl1 := Al.lab_asc H0.out ha
    have hbd : ∀ c ∈ l, 0 ≤ c ∧ c ≤ 127 := by
      intro c hc
      have := List.all_eq_true.1 ha c hc
      simpa using this
    have HBD := Lib.hid hbd
    have HL1 := Lib.hid hl1
    rw [ha] at hac
    have HAC := Lib.hid hac; clear hac ha hl1 hbd
    go_enter Try.func27, Try.ntmps27
    go_wp2_with fail
    refine HAC.out.mono ?_
    rintro e w1 ⟨rfl, hw1⟩
    subst hw1
    go_wp2_with fail
    go_loopw [4, 16] (fun vo vi wr => ∃ (k : Nat) (A : Option Addr) (c : Nat), k ≤ l.length ∧ vi = .int .i64 k ∧ vo = .slice A k c ∧ wr.ownsRow w.heap.size 5 1 (.slice A k c) k (bys ((l.map Pn.byte).take k)) ∧ Below w.heap.size w wr) (fun _ vi _ => l.length - (intOf vi).toNat)
    case atStart => exact ⟨0, none, 0, by omega, rfl, rfl, World.ownsRow_nil _ _ _ _, Below.refl _ _⟩
    case round =>
      obtain ⟨k, A2, c2, hk, rfl, rfl, ho, hb⟩ := hrel
      have HO := Lib.hid ho; have HB := Lib.hid hb
      have hsw := hb.size
      clear ho hb
      by_cases hlt : k < l.length
      · obtain ⟨b, off, cc, rfl, hb, hat, hcell⟩ := ints_cell (HR.out.below (HB.out.mono hBw)) hlt
        obtain ⟨g0, g1⟩ := HBD.out cc (List.mem_of_getElem? hat)
        have hbn := Pn.byte_num cc g0 (by omega)
        have hmp : (l.map Pn.byte).take (k + 1) = (l.map Pn.byte).take k ++ [Pn.byte cc] := by
          obtain ⟨q1, q2⟩ := List.getElem?_eq_some_iff.1 hat
          rw [List.take_succ_eq_append_getElem (by rw [List.length_map]; exact q1), List.getElem_map, q2]
        have HBN := Lib.hid hbn; have HMP := Lib.hid hmp
        clear hbn hmp hat
        go_wp2_with (at_builtin; refine app_byte (by rfl) _ _ rfl (base := w.heap.size) rfl (HO.out.alloc _) rfl (rd_one_u8x (z := wr.heap.size) rfl HBN.out) (by omega) (by simp <;> omega) ?_)
        intro A4 c4 w4 ho4 hg4 hc4
        have HP := Lib.hid (own_below HO.out HB.out _ hg4 hsw)
        have HO4 := Lib.hid (show w4.ownsRow w.heap.size 5 1 (.slice A4 (k + 1) c4) (k + 1) (bys ((l.map Pn.byte).take (k + 1))) by rw [HMP.out]; exact ho4)
        clear ho4 hg4 hc4
        go_wp2
        go_roundw
        case rel => exact ⟨k + 1, A4, c4, by omega, by go_num, rfl, HO4.out, HP.out⟩
        case measure => simp [intOf]; omega
      · have hkl : k = l.length := by omega
        have htk : (l.map Pn.byte).take k = l.map Pn.byte := List.take_of_length_le (by rw [List.length_map]; omega)
        have ho := HO.out
        rw [htk] at ho
        subst hkl
        have hcv := conv_row ho
        clear ho htk
        by_cases h63 : 63 < l.length
        · have hl2 := HL1.out
          rw [if_pos h63] at hl2
          have HL2 := Lib.hid hl2; clear hl2
          have h63i : (63 : Int) < (l.length : Int) := by omega
          go_wp2
          go_ret2
          exact ⟨by rw [HL2.out]; rfl, HB.out⟩
        · have hl2 := HL1.out
          rw [if_neg h63] at hl2
          have HL2 := Lib.hid hl2; clear hl2
          have h63i : ¬ ((63 : Int) < (l.length : Int)) := by omega
          go_wp2
          go_ret2
          exact ⟨by rw [HL2.out]; rfl, HB.out⟩
end Go.Proofs.Ytoihjbiahccaaaa
