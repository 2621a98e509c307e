/- The program's GoodFrame, walked over its cells. Conditions: those that each theorem names. -/
import Derived.Test.YtlohefjigggjiaaVFrm2
import Derived.Lib.Hide
namespace Go.Proofs.YtlohefjigggjiaaV.Aes
open Go.RowKit Go.Proofs.YtlohefjigggjiaaV.PrintWords Go.Proofs.YtlohefjigggjiaaV.PrintLast Go.Proofs.YtlohefjigggjiaaV.PrintMore Go.Proofs.YtlohefjigggjiaaV.Mem
set_option linter.unusedVariables false
set_option linter.unusedSimpArgs false

def shT : List (Int × Int × Bool) := [(0, 0, false), (1, 0, false), (2, 1, false), (4, 3, false), (5, 2, false), (6, 1, true), (7, 0, true), (8, 2, true), (16, 1, false), (17, 2, false), (24, 3, true), (26, 0, true), (27, 0, true), (28, 2, true), (48, 0, true)]
def shP (k : Int) : Int × Bool := match shT.find? (fun p => p.1 == k) with | some p => p.2 | none => (0, false)
def shH (k : Int) : Bool := shT.any (fun p => p.1 == k)
set_option maxRecDepth 100000 in
theorem shapes_list : shapesD = .map (shT.map fun p => (.int .i64 p.1, shapeD p.2.1 p.2.2)) := by rfl
theorem at_list (T : List (Int × Int × Bool)) (k : Int) : DataW.atKey (.map (T.map fun p => ((Lit.int .i64 p.1 : Lit), shapeD p.2.1 p.2.2))) (.int .i64 k) (shapeD 0 false) = (match T.find? (fun p => p.1 == k) with | some p => shapeD p.2.1 p.2.2 | none => shapeD 0 false) := by
  induction T with
  | nil => rfl
  | cons p T ih =>
    simp only [DataW.atKey] at ih ⊢
    rw [List.map_cons, List.find?_cons, List.find?_cons]
    by_cases h : p.1 = k
    · have h1 : (Lit.int .i64 p.1).sameKey (.int .i64 k) = true := by simp [Lit.sameKey, h]
      have h2 : (p.1 == k) = true := by simp [h]
      rw [h1, h2]
    · have h1 : (Lit.int .i64 p.1).sameKey (.int .i64 k) = false := by simp [Lit.sameKey, h]
      have h2 : (p.1 == k) = false := by simp [h]
      rw [h1, h2]
      exact ih
theorem has_list (T : List (Int × Int × Bool)) (k : Int) : Maps.has (.map (T.map fun p => ((Lit.int .i64 p.1 : Lit), shapeD p.2.1 p.2.2))) (.int .i64 k) = T.any (fun p => p.1 == k) := by
  rw [Maps.has_eq]
  induction T with
  | nil => rfl
  | cons p T ih =>
    rw [List.map_cons, List.any_cons, List.any_cons, ih]
    congr 1
    simp [Lit.sameKey, Bool.beq_eq_decide_eq]
theorem shape_at (k num : Int) (dt : Bool) (h : shapesD.atKey (.int .i64 k) (shapeD 0 false) = shapeD num dt) : num = (shP k).1 ∧ dt = (shP k).2 := by
  rw [shapes_list, at_list] at h
  have e : (match shT.find? (fun p => p.1 == k) with | some p => shapeD p.2.1 p.2.2 | none => shapeD 0 false) = shapeD (shP k).1 (shP k).2 := by
    unfold shP
    cases shT.find? (fun p => p.1 == k) <;> rfl
  rw [e] at h
  unfold shapeD at h
  simp at h
  exact ⟨h.1.symm, h.2.symm⟩
theorem shape_has (k : Int) : Maps.has shapesD (.int .i64 k) = shH k := by rw [shapes_list, has_list]; rfl
def nmF (k a b c : Int) (fin : Bool) (data : ByteArray) (n : Nat) : Bool := namedF k a b c fin data n (shP k).1 (shP k).2 (shH k)
theorem named_calls (g : Nat) (k a b c : Int) (fin : Bool) (data : ByteArray) (A : Option Addr) (n cap : Nat) (w : World) (hw : (Lit.int .i64 k).wf = true)
    (hg : w.heap[g]? = some (.cells #[.int .i64 k, .int .i64 a, .int .i64 b, .int .i64 c, .bool fin, .string data, .slice A n cap] 55 (0, 0))) :
    Calls Try.prog 81 #[.pointer (some ⟨g, 0, none⟩)] w fun e w' => e = .returned (.bool (nmF k a b c fin data n)) ∧ Below w.heap.size w w' := by
  refine (named_top g k a b c fin data A n cap w hw hg).mono ?_
  rintro e w' ⟨num, dt, hat, rfl, hB⟩
  obtain ⟨rfl, rfl⟩ := shape_at k num dt hat
  rw [shape_has]
  exact ⟨rfl, hB⟩
theorem nm_true {k a b c : Int} {fin : Bool} {data : ByteArray} {n : Nat} (h : nmF k a b c fin data n = true) : data.size ≤ 200 ∧ okI a = true ∧ okI b = true ∧ okI c = true := by
  unfold nmF namedF at h
  simp only [Bool.and_eq_true, Bool.not_eq_true'] at h
  obtain ⟨h0, h1, h2, h3⟩ := h
  refine ⟨?_, ?_, ?_, ?_⟩
  · unfold badTop at h0
    split at h0
    · split at h0
      · cases h0
      · omega
    · cases h0
  · unfold badAt at h1; simp only [Bool.or_eq_false_iff, Bool.not_eq_false'] at h1; exact h1.1
  · unfold badAt at h2; simp only [Bool.or_eq_false_iff, Bool.not_eq_false'] at h2; exact h2.1
  · unfold badAt at h3; simp only [Bool.or_eq_false_iff, Bool.not_eq_false'] at h3; exact h3.1
def FrPost (w : World) (r : Bool) (e : Ending) (w' : World) : Prop := e = .returned (.bool r) ∧ Below w.heap.size w w'
def FrCells (k a b c : Int) (fin : Bool) (data : ByteArray) (A : Option Addr) (n cap : Nat) : Obj := .cells #[.int .i64 k, .int .i64 a, .int .i64 b, .int .i64 c, .bool fin, .string data, .slice A n cap] 55 (0, 0)
set_option maxHeartbeats 4000000 in
set_option maxRecDepth 100000 in
theorem frame_no (k a b c : Int) (fin : Bool) (data : ByteArray) (A : Option Addr) (n cap : Nat) (w : World) (hw : (Lit.int .i64 k).wf = true) (hn : nmF k a b c fin data n = false) :
    Calls Try.prog 35 #[.agg #[.int .i64 k, .int .i64 a, .int .i64 b, .int .i64 c, .bool fin, .string data, .slice A n cap]] w (FrPost w false) := by
  have hbox : (w.alloc (FrCells k a b c fin data A n cap)).heap[w.heap.size]? = some (FrCells k a b c fin data A n cap) := heap_alloc_new w _
  have hnm := named_calls w.heap.size k a b c fin data A n cap (w.alloc (FrCells k a b c fin data A n cap)) hw hbox
  have hB0 : Below w.heap.size w (w.alloc (FrCells k a b c fin data A n cap)) := (Below.refl _ _).alloc (Nat.le_refl _) _
  rw [hn] at hnm
  have HI := Lib.hid (And.intro hbox hB0)
  clear hbox hB0 hw hn
  unfold FrCells at hnm
  go_enter Try.func35, Try.ntmps35
  go_wp2_with (go_at_call 81; refine hnm.mono ?_; rintro e w1 ⟨rfl, hB1⟩; have HB := Lib.hid (HI.out.2.trans (hB1.mono HI.out.2.size)); clear hB1)
  go_ret
  exact ⟨rfl, HB.out⟩
set_option maxHeartbeats 4000000 in
set_option maxRecDepth 100000 in
theorem frame_6 (a b c : Int) (fin : Bool) (data : ByteArray) (A : Option Addr) (n cap : Nat) (w : World) (hw : (Lit.int .i64 6).wf = true) (hn : nmF 6 a b c fin data n = true) :
    Calls Try.prog 35 #[.agg #[.int .i64 6, .int .i64 a, .int .i64 b, .int .i64 c, .bool fin, .string data, .slice A n cap]] w (FrPost w (okI (a + (data.size : Int)))) := by
  have hlt := nm_true hn
  have ra : IntKind.i64.wrap (a + (data.size : Int)) = a + (data.size : Int) := by
    have h2 := hlt.2.1; unfold okI at h2; simp only [Bool.and_eq_true, decide_eq_true_iff] at h2
    rw [IntKind.wrap_i64]; have := hlt.1; omega
  clear hlt
  have hbox : (w.alloc (FrCells 6 a b c fin data A n cap)).heap[w.heap.size]? = some (FrCells 6 a b c fin data A n cap) := heap_alloc_new w _
  have hnm := named_calls w.heap.size 6 a b c fin data A n cap (w.alloc (FrCells 6 a b c fin data A n cap)) hw hbox
  have hB0 : Below w.heap.size w (w.alloc (FrCells 6 a b c fin data A n cap)) := (Below.refl _ _).alloc (Nat.le_refl _) _
  rw [hn] at hnm
  have HI := Lib.hid (And.intro hbox hB0)
  clear hbox hB0 hw hn
  unfold FrCells at hnm
  go_enter Try.func35, Try.ntmps35
  go_wp2_with (first
    | (go_at_call 81; refine hnm.mono ?_; rintro e w1 ⟨rfl, hB1⟩; have hg1 := blk_below HI.out.1 hB1; unfold FrCells at hg1; obtain ⟨d0, d1, d2, d3, d4, d5, d6, _⟩ := blk7 hg1; have HB := Lib.hid (HI.out.2.trans (hB1.mono HI.out.2.size)); clear hB1 hg1)
    | (go_at_call 54; refine (isv_at _ _ rfl _).mono ?_; rintro e w2 ⟨rfl, rfl⟩))
  go_ret
  exact ⟨rfl, HB.out⟩
set_option maxHeartbeats 4000000 in
set_option maxRecDepth 100000 in
theorem frame_8 (a b c : Int) (fin : Bool) (data : ByteArray) (A : Option Addr) (n cap : Nat) (w : World) (hw : (Lit.int .i64 8).wf = true) (hn : nmF 8 a b c fin data n = true) :
    Calls Try.prog 35 #[.agg #[.int .i64 8, .int .i64 a, .int .i64 b, .int .i64 c, .bool fin, .string data, .slice A n cap]] w (FrPost w (okI (b + (data.size : Int)))) := by
  have hlt := nm_true hn
  have ra : IntKind.i64.wrap (b + (data.size : Int)) = b + (data.size : Int) := by
    have h2 := hlt.2.2.1; unfold okI at h2; simp only [Bool.and_eq_true, decide_eq_true_iff] at h2
    rw [IntKind.wrap_i64]; have := hlt.1; omega
  clear hlt
  have hbox : (w.alloc (FrCells 8 a b c fin data A n cap)).heap[w.heap.size]? = some (FrCells 8 a b c fin data A n cap) := heap_alloc_new w _
  have hnm := named_calls w.heap.size 8 a b c fin data A n cap (w.alloc (FrCells 8 a b c fin data A n cap)) hw hbox
  have hB0 : Below w.heap.size w (w.alloc (FrCells 8 a b c fin data A n cap)) := (Below.refl _ _).alloc (Nat.le_refl _) _
  rw [hn] at hnm
  have HI := Lib.hid (And.intro hbox hB0)
  clear hbox hB0 hw hn
  unfold FrCells at hnm
  go_enter Try.func35, Try.ntmps35
  go_wp2_with (first
    | (go_at_call 81; refine hnm.mono ?_; rintro e w1 ⟨rfl, hB1⟩; have hg1 := blk_below HI.out.1 hB1; unfold FrCells at hg1; obtain ⟨d0, d1, d2, d3, d4, d5, d6, _⟩ := blk7 hg1; have HB := Lib.hid (HI.out.2.trans (hB1.mono HI.out.2.size)); clear hB1 hg1)
    | (go_at_call 54; refine (isv_at _ _ rfl _).mono ?_; rintro e w2 ⟨rfl, rfl⟩))
  go_ret
  exact ⟨rfl, HB.out⟩
set_option maxHeartbeats 4000000 in
set_option maxRecDepth 100000 in
theorem frame_7 (a b c : Int) (fin : Bool) (data : ByteArray) (A : Option Addr) (n cap : Nat) (w : World) (hw : (Lit.int .i64 7).wf = true) (hn : nmF 7 a b c fin data n = true) :
    Calls Try.prog 35 #[.agg #[.int .i64 7, .int .i64 a, .int .i64 b, .int .i64 c, .bool fin, .string data, .slice A n cap]] w (FrPost w (!(decide (data.toList = ([] : List UInt8))))) := by
  have hbox : (w.alloc (FrCells 7 a b c fin data A n cap)).heap[w.heap.size]? = some (FrCells 7 a b c fin data A n cap) := heap_alloc_new w _
  have hnm := named_calls w.heap.size 7 a b c fin data A n cap (w.alloc (FrCells 7 a b c fin data A n cap)) hw hbox
  have hB0 : Below w.heap.size w (w.alloc (FrCells 7 a b c fin data A n cap)) := (Below.refl _ _).alloc (Nat.le_refl _) _
  rw [hn] at hnm
  have HI := Lib.hid (And.intro hbox hB0)
  clear hbox hB0 hw hn
  unfold FrCells at hnm
  go_enter Try.func35, Try.ntmps35
  go_wp2_with (first
    | (go_at_call 81; refine hnm.mono ?_; rintro e w1 ⟨rfl, hB1⟩; have hg1 := blk_below HI.out.1 hB1; unfold FrCells at hg1; obtain ⟨d0, d1, d2, d3, d4, d5, d6, _⟩ := blk7 hg1; have HB := Lib.hid (HI.out.2.trans (hB1.mono HI.out.2.size)); clear hB1 hg1))
  go_ret
  exact ⟨by first | rfl | (by_cases h : data.toList = ([] : List UInt8) <;> simp [h]) , HB.out⟩
set_option maxHeartbeats 4000000 in
set_option maxRecDepth 100000 in
theorem frame_24a (a b c : Int) (fin : Bool) (data : ByteArray) (A : Option Addr) (n cap : Nat) (w : World) (hw : (Lit.int .i64 24).wf = true) (hn : nmF 24 a b c fin data n = true) (h : ¬ b ≤ a) :
    Calls Try.prog 35 #[.agg #[.int .i64 24, .int .i64 a, .int .i64 b, .int .i64 c, .bool fin, .string data, .slice A n cap]] w (FrPost w false) := by
  have hd : decide (b ≤ a) = false := decide_eq_false h
  have hbox : (w.alloc (FrCells 24 a b c fin data A n cap)).heap[w.heap.size]? = some (FrCells 24 a b c fin data A n cap) := heap_alloc_new w _
  have hnm := named_calls w.heap.size 24 a b c fin data A n cap (w.alloc (FrCells 24 a b c fin data A n cap)) hw hbox
  have hB0 : Below w.heap.size w (w.alloc (FrCells 24 a b c fin data A n cap)) := (Below.refl _ _).alloc (Nat.le_refl _) _
  rw [hn] at hnm
  have HI := Lib.hid (And.intro hbox hB0)
  clear hbox hB0 hw hn
  unfold FrCells at hnm
  go_enter Try.func35, Try.ntmps35
  go_wp2_with (first
    | (go_at_call 81; refine hnm.mono ?_; rintro e w1 ⟨rfl, hB1⟩; have hg1 := blk_below HI.out.1 hB1; unfold FrCells at hg1; obtain ⟨d0, d1, d2, d3, d4, d5, d6, _⟩ := blk7 hg1; have HB := Lib.hid (HI.out.2.trans (hB1.mono HI.out.2.size)); clear hB1 hg1))
  go_ret
  exact ⟨rfl, HB.out⟩
set_option maxHeartbeats 4000000 in
set_option maxRecDepth 100000 in
theorem frame_24b (a b c : Int) (fin : Bool) (data : ByteArray) (A : Option Addr) (n cap : Nat) (w : World) (hw : (Lit.int .i64 24).wf = true) (hn : nmF 24 a b c fin data n = true) (h : b ≤ a) (hin : false = (decide ((1 : Int) ≤ (data.size : Int)) && decide ((data.size : Int) ≤ 20))) :
    Calls Try.prog 35 #[.agg #[.int .i64 24, .int .i64 a, .int .i64 b, .int .i64 c, .bool fin, .string data, .slice A n cap]] w (FrPost w false) := by
  have hd : decide (b ≤ a) = true := decide_eq_true h
  have HIN := Lib.hid hin
  clear hin
  have hbox : (w.alloc (FrCells 24 a b c fin data A n cap)).heap[w.heap.size]? = some (FrCells 24 a b c fin data A n cap) := heap_alloc_new w _
  have hnm := named_calls w.heap.size 24 a b c fin data A n cap (w.alloc (FrCells 24 a b c fin data A n cap)) hw hbox
  have hB0 : Below w.heap.size w (w.alloc (FrCells 24 a b c fin data A n cap)) := (Below.refl _ _).alloc (Nat.le_refl _) _
  rw [hn] at hnm
  have HI := Lib.hid (And.intro hbox hB0)
  clear hbox hB0 hw hn
  unfold FrCells at hnm
  go_enter Try.func35, Try.ntmps35
  go_wp2_with (first
    | (go_at_call 81; refine hnm.mono ?_; rintro e w1 ⟨rfl, hB1⟩; have hg1 := blk_below HI.out.1 hB1; unfold FrCells at hg1; obtain ⟨d0, d1, d2, d3, d4, d5, d6, _⟩ := blk7 hg1; have HB := Lib.hid (HI.out.2.trans (hB1.mono HI.out.2.size)); clear hB1 hg1)
    | (go_at_call 72; refine (in_at _ _ _ _ HIN.out _).mono ?_; rintro e w2 ⟨rfl, rfl⟩))
  go_ret
  exact ⟨rfl, HB.out⟩
set_option maxHeartbeats 4000000 in
set_option maxRecDepth 100000 in
theorem frame_24c (a b c : Int) (fin : Bool) (data : ByteArray) (A : Option Addr) (n cap : Nat) (w : World) (hw : (Lit.int .i64 24).wf = true) (hn : nmF 24 a b c fin data n = true) (h : b ≤ a) (hin : true = (decide ((1 : Int) ≤ (data.size : Int)) && decide ((data.size : Int) ≤ 20))) :
    Calls Try.prog 35 #[.agg #[.int .i64 24, .int .i64 a, .int .i64 b, .int .i64 c, .bool fin, .string data, .slice A n cap]] w (FrPost w (decide (c ≤ 255))) := by
  have hd : decide (b ≤ a) = true := decide_eq_true h
  have HIN := Lib.hid hin
  clear hin
  have hbox : (w.alloc (FrCells 24 a b c fin data A n cap)).heap[w.heap.size]? = some (FrCells 24 a b c fin data A n cap) := heap_alloc_new w _
  have hnm := named_calls w.heap.size 24 a b c fin data A n cap (w.alloc (FrCells 24 a b c fin data A n cap)) hw hbox
  have hB0 : Below w.heap.size w (w.alloc (FrCells 24 a b c fin data A n cap)) := (Below.refl _ _).alloc (Nat.le_refl _) _
  rw [hn] at hnm
  have HI := Lib.hid (And.intro hbox hB0)
  clear hbox hB0 hw hn
  unfold FrCells at hnm
  go_enter Try.func35, Try.ntmps35
  go_wp2_with (first
    | (go_at_call 81; refine hnm.mono ?_; rintro e w1 ⟨rfl, hB1⟩; have hg1 := blk_below HI.out.1 hB1; unfold FrCells at hg1; obtain ⟨d0, d1, d2, d3, d4, d5, d6, _⟩ := blk7 hg1; have HB := Lib.hid (HI.out.2.trans (hB1.mono HI.out.2.size)); clear hB1 hg1)
    | (go_at_call 72; refine (in_at _ _ _ _ HIN.out _).mono ?_; rintro e w2 ⟨rfl, rfl⟩))
  go_ret
  exact ⟨rfl, HB.out⟩
set_option maxHeartbeats 4000000 in
set_option maxRecDepth 100000 in
theorem frame_26 (a b c : Int) (fin : Bool) (data : ByteArray) (A : Option Addr) (n cap : Nat) (w : World) (hw : (Lit.int .i64 26).wf = true) (hn : nmF 26 a b c fin data n = true)  :
    Calls Try.prog 35 #[.agg #[.int .i64 26, .int .i64 a, .int .i64 b, .int .i64 c, .bool fin, .string data, .slice A n cap]] w (FrPost w (decide ((data.size : Int) = 8))) := by
  have hbox : (w.alloc (FrCells 26 a b c fin data A n cap)).heap[w.heap.size]? = some (FrCells 26 a b c fin data A n cap) := heap_alloc_new w _
  have hnm := named_calls w.heap.size 26 a b c fin data A n cap (w.alloc (FrCells 26 a b c fin data A n cap)) hw hbox
  have hB0 : Below w.heap.size w (w.alloc (FrCells 26 a b c fin data A n cap)) := (Below.refl _ _).alloc (Nat.le_refl _) _
  rw [hn] at hnm
  have HI := Lib.hid (And.intro hbox hB0)
  clear hbox hB0 hw hn
  unfold FrCells at hnm
  go_enter Try.func35, Try.ntmps35
  go_wp2_with (first
    | (go_at_call 81; refine hnm.mono ?_; rintro e w1 ⟨rfl, hB1⟩; have hg1 := blk_below HI.out.1 hB1; unfold FrCells at hg1; obtain ⟨d0, d1, d2, d3, d4, d5, d6, _⟩ := blk7 hg1; have HB := Lib.hid (HI.out.2.trans (hB1.mono HI.out.2.size)); clear hB1 hg1))
  go_ret
  exact ⟨by first | rfl | (by_cases h : (data.size : Int) = 8 <;> simp [h]), HB.out⟩
set_option maxHeartbeats 4000000 in
set_option maxRecDepth 100000 in
theorem frame_27 (a b c : Int) (fin : Bool) (data : ByteArray) (A : Option Addr) (n cap : Nat) (w : World) (hw : (Lit.int .i64 27).wf = true) (hn : nmF 27 a b c fin data n = true)  :
    Calls Try.prog 35 #[.agg #[.int .i64 27, .int .i64 a, .int .i64 b, .int .i64 c, .bool fin, .string data, .slice A n cap]] w (FrPost w (decide ((data.size : Int) = 8))) := by
  have hbox : (w.alloc (FrCells 27 a b c fin data A n cap)).heap[w.heap.size]? = some (FrCells 27 a b c fin data A n cap) := heap_alloc_new w _
  have hnm := named_calls w.heap.size 27 a b c fin data A n cap (w.alloc (FrCells 27 a b c fin data A n cap)) hw hbox
  have hB0 : Below w.heap.size w (w.alloc (FrCells 27 a b c fin data A n cap)) := (Below.refl _ _).alloc (Nat.le_refl _) _
  rw [hn] at hnm
  have HI := Lib.hid (And.intro hbox hB0)
  clear hbox hB0 hw hn
  unfold FrCells at hnm
  go_enter Try.func35, Try.ntmps35
  go_wp2_with (first
    | (go_at_call 81; refine hnm.mono ?_; rintro e w1 ⟨rfl, hB1⟩; have hg1 := blk_below HI.out.1 hB1; unfold FrCells at hg1; obtain ⟨d0, d1, d2, d3, d4, d5, d6, _⟩ := blk7 hg1; have HB := Lib.hid (HI.out.2.trans (hB1.mono HI.out.2.size)); clear hB1 hg1))
  go_ret
  exact ⟨by first | rfl | (by_cases h : (data.size : Int) = 8 <;> simp [h]), HB.out⟩
set_option maxHeartbeats 4000000 in
set_option maxRecDepth 100000 in
theorem frame_2a (a b c : Int) (fin : Bool) (data : ByteArray) (A : Option Addr) (n cap : Nat) (w : World) (hw : (Lit.int .i64 2).wf = true) (hn : nmF 2 a b c fin data n = true) (hin : false = (decide ((1 : Int) ≤ (n : Int)) && decide ((n : Int) ≤ 20))) :
    Calls Try.prog 35 #[.agg #[.int .i64 2, .int .i64 a, .int .i64 b, .int .i64 c, .bool fin, .string data, .slice A n cap]] w (FrPost w false) := by
  have HIN := Lib.hid hin
  clear hin
  have hbox : (w.alloc (FrCells 2 a b c fin data A n cap)).heap[w.heap.size]? = some (FrCells 2 a b c fin data A n cap) := heap_alloc_new w _
  have hnm := named_calls w.heap.size 2 a b c fin data A n cap (w.alloc (FrCells 2 a b c fin data A n cap)) hw hbox
  have hB0 : Below w.heap.size w (w.alloc (FrCells 2 a b c fin data A n cap)) := (Below.refl _ _).alloc (Nat.le_refl _) _
  rw [hn] at hnm
  have HI := Lib.hid (And.intro hbox hB0)
  clear hbox hB0 hw hn
  unfold FrCells at hnm
  go_enter Try.func35, Try.ntmps35
  go_wp2_with (first
    | (go_at_call 81; refine hnm.mono ?_; rintro e w1 ⟨rfl, hB1⟩; have hg1 := blk_below HI.out.1 hB1; unfold FrCells at hg1; obtain ⟨d0, d1, d2, d3, d4, d5, d6, _⟩ := blk7 hg1; have HB := Lib.hid (HI.out.2.trans (hB1.mono HI.out.2.size)); clear hB1 hg1)
    | (go_at_call 72; refine (in_at _ _ _ _ HIN.out _).mono ?_; rintro e w2 ⟨rfl, rfl⟩))
  go_ret
  exact ⟨rfl, HB.out⟩
set_option maxHeartbeats 4000000 in
set_option maxRecDepth 100000 in
theorem frame_2b (a b c : Int) (fin : Bool) (data : ByteArray) (A : Option Addr) (n cap : Nat) (w : World) (hw : (Lit.int .i64 2).wf = true) (hn : nmF 2 a b c fin data n = true) (hin : true = (decide ((1 : Int) ≤ (n : Int)) && decide ((n : Int) ≤ 20))) (ro : Bool) (hro : ∀ W, Below w.heap.size w W → Calls Try.prog 82 #[.slice A n cap] W fun e w' => e = .returned (.bool ro) ∧ Below W.heap.size W w') :
    Calls Try.prog 35 #[.agg #[.int .i64 2, .int .i64 a, .int .i64 b, .int .i64 c, .bool fin, .string data, .slice A n cap]] w (FrPost w ro) := by
  have HIN := Lib.hid hin
  clear hin
  have hbox : (w.alloc (FrCells 2 a b c fin data A n cap)).heap[w.heap.size]? = some (FrCells 2 a b c fin data A n cap) := heap_alloc_new w _
  have hnm := named_calls w.heap.size 2 a b c fin data A n cap (w.alloc (FrCells 2 a b c fin data A n cap)) hw hbox
  have hB0 : Below w.heap.size w (w.alloc (FrCells 2 a b c fin data A n cap)) := (Below.refl _ _).alloc (Nat.le_refl _) _
  rw [hn] at hnm
  have HI := Lib.hid (And.intro hbox hB0)
  clear hbox hB0 hw hn
  unfold FrCells at hnm
  go_enter Try.func35, Try.ntmps35
  go_wp2_with (first
    | (go_at_call 81; refine hnm.mono ?_; rintro e w1 ⟨rfl, hB1⟩; have hg1 := blk_below HI.out.1 hB1; unfold FrCells at hg1; obtain ⟨d0, d1, d2, d3, d4, d5, d6, _⟩ := blk7 hg1; have HB := Lib.hid (HI.out.2.trans (hB1.mono HI.out.2.size)); clear hB1 hg1)
    | (go_at_call 72; refine (in_at _ _ _ _ HIN.out _).mono ?_; rintro e w2 ⟨rfl, rfl⟩)
    | (go_at_call 82; refine (hro _ HB.out).mono ?_; rintro e w3 ⟨rfl, hB3⟩; have HB3 := Lib.hid hB3; clear hB3))
  go_ret
  exact ⟨rfl, HB.out.trans (HB3.out.mono HB.out.size)⟩
set_option maxHeartbeats 4000000 in
set_option maxRecDepth 100000 in
theorem frame_else (k a b c : Int) (fin : Bool) (data : ByteArray) (A : Option Addr) (n cap : Nat) (w : World) (hw : (Lit.int .i64 k).wf = true) (hn : nmF k a b c fin data n = true) (hx : ¬ k = 2 ∧ ¬ k = 6 ∧ ¬ k = 7 ∧ ¬ k = 8 ∧ ¬ k = 24 ∧ ¬ k = 26 ∧ ¬ k = 27) :
    Calls Try.prog 35 #[.agg #[.int .i64 k, .int .i64 a, .int .i64 b, .int .i64 c, .bool fin, .string data, .slice A n cap]] w (FrPost w true) := by
  have q1 : (k == 2) = false := by simp; omega
  have q2 : (k == 6) = false := by simp; omega
  have q3 : (k == 7) = false := by simp; omega
  have q4 : (k == 8) = false := by simp; omega
  have q5 : (k == 24) = false := by simp; omega
  have q6 : (k == 26) = false := by simp; omega
  have q7 : (k == 27) = false := by simp; omega
  obtain ⟨r1, r2, r3, r4, r5, r6, r7⟩ := hx
  have hbox : (w.alloc (FrCells k a b c fin data A n cap)).heap[w.heap.size]? = some (FrCells k a b c fin data A n cap) := heap_alloc_new w _
  have hnm := named_calls w.heap.size k a b c fin data A n cap (w.alloc (FrCells k a b c fin data A n cap)) hw hbox
  have hB0 : Below w.heap.size w (w.alloc (FrCells k a b c fin data A n cap)) := (Below.refl _ _).alloc (Nat.le_refl _) _
  rw [hn] at hnm
  have HI := Lib.hid (And.intro hbox hB0)
  clear hbox hB0 hw hn
  unfold FrCells at hnm
  go_enter Try.func35, Try.ntmps35
  go_wp2_with (first
    | (go_at_call 81; refine hnm.mono ?_; rintro e w1 ⟨rfl, hB1⟩; have hg1 := blk_below HI.out.1 hB1; unfold FrCells at hg1; obtain ⟨d0, d1, d2, d3, d4, d5, d6, _⟩ := blk7 hg1; have HB := Lib.hid (HI.out.2.trans (hB1.mono HI.out.2.size)); clear hB1 hg1))
  go_ret
  exact ⟨rfl, HB.out⟩
end Go.Proofs.YtlohefjigggjiaaV.Aes
