/- The program's GoodHeader walked, way by way (printed by mkhdr.py). Conditions: at most 1048576 versions. -/
import Derived.Test.YtlohefjigggjiaaVHdr
namespace Go.Proofs.YtlohefjigggjiaaV.Aes
open Go.RowKit Go.Proofs.YtlohefjigggjiaaV.PrintWords Go.Proofs.YtlohefjigggjiaaV.PrintLast Go.Proofs.YtlohefjigggjiaaV.PrintMore Go.Proofs.YtlohefjigggjiaaV.Mem
set_option linter.unusedVariables false
set_option linter.unusedSimpArgs false

theorem long_at (n : Int) (b : Bool) (hb : b = (decide (0 ≤ n) && decide (n ≤ 3))) (w : World) : Calls Try.prog 73 #[.int .i64 n] w fun e w' => e = .returned (.bool b) ∧ w = w' := by
  have hin := in_at n 0 3 b hb
  clear hb
  go_enter Try.func73, Try.ntmps73
  go_wp2_with (go_at_call 72; refine (hin _).mono ?_; rintro e w1 ⟨rfl, rfl⟩)
  go_ret
  exact ⟨rfl, rfl⟩
theorem ver_at (n : Int) (b : Bool) (hb : b = (decide (1 ≤ n) && decide (n ≤ 4294967295))) (w : World) : Calls Try.prog 74 #[.int .i64 n] w fun e w' => e = .returned (.bool b) ∧ w = w' := by
  have hin := in_at n 1 4294967295 b hb
  clear hb
  go_enter Try.func74, Try.ntmps74
  go_wp2_with (go_at_call 72; refine (hin _).mono ?_; rintro e w1 ⟨rfl, rfl⟩)
  go_ret
  exact ⟨rfl, rfl⟩
theorem contains_at (A : Option Addr) (c n : Nat) (l : List Int) (b : Bool) (hb : b = l.any badV) (w W : World) (hn : n = l.length) (hr : Kd.C (Kd.int .i64) w A n l) (hl : n ≤ 1048576) (hB : Below w.heap.size w W) :
    Calls Try.prog 75 #[.slice A n c, .func (.func 76) #[] #[]] W fun e w' => e = .returned (.bool b) ∧ W = w' :=
  contains_walk A c n l b hb W hn (Kd.Heap.C (Kd.heap_int .i64) (fun k hk => hB.block k hk) hr) hl
set_option maxHeartbeats 8000000 in
set_option maxRecDepth 100000 in
theorem gh_a0 (f b v : Int) (d s t p : ByteArray) (A : Option Addr) (c n : Nat) (w : World) (hd : d.size > 20) : Calls Try.prog 30 #[.agg #[.int .i64 f, .int .i64 b, .int .i64 v, .string d, .string s, .string t, .string p, .slice A n c]] w fun e w' => e = .returned (.bool (false)) ∧ Below w.heap.size w w' := by
  have hda : decide (20 < (d.size : Int)) = true := by simp; omega
  have hdc : decide (((d.size : Nat) : Int) > 20) = true := by simp; omega
  have hdb : decide (20 < (d.size : Nat)) = true := by simp; omega
  have hdd : ((d.size : Nat) : Int) > 20 := by omega
  clear hd
  go_enter Try.func30, Try.ntmps30
  go_wp2
  go_ret
  exact ⟨rfl, (Below.refl _ _).alloc (Nat.le_refl _) _⟩
set_option maxHeartbeats 8000000 in
set_option maxRecDepth 100000 in
theorem gh_a1 (f b v : Int) (d s t p : ByteArray) (A : Option Addr) (c n : Nat) (w : World) (hd : ¬ (d.size > 20)) (hs : s.size > 20) : Calls Try.prog 30 #[.agg #[.int .i64 f, .int .i64 b, .int .i64 v, .string d, .string s, .string t, .string p, .slice A n c]] w fun e w' => e = .returned (.bool (false)) ∧ Below w.heap.size w w' := by
  have hda : decide (20 < (d.size : Int)) = false := by simp; omega
  have hdc : decide (((d.size : Nat) : Int) > 20) = false := by simp; omega
  have hdb : decide (20 < (d.size : Nat)) = false := by simp; omega
  have hdd : ¬ ((d.size : Nat) : Int) > 20 := by omega
  have hsa : decide (20 < (s.size : Int)) = true := by simp; omega
  have hsc : decide (((s.size : Nat) : Int) > 20) = true := by simp; omega
  have hsb : decide (20 < (s.size : Nat)) = true := by simp; omega
  have hsd : ((s.size : Nat) : Int) > 20 := by omega
  clear hd hs
  go_enter Try.func30, Try.ntmps30
  go_wp2
  go_ret
  exact ⟨rfl, (Below.refl _ _).alloc (Nat.le_refl _) _⟩
set_option maxHeartbeats 8000000 in
set_option maxRecDepth 100000 in
theorem gh_a2 (f b v : Int) (d s t p : ByteArray) (A : Option Addr) (c n : Nat) (w : World) (hd : ¬ (d.size > 20)) (hs : ¬ (s.size > 20)) (hb : ¬ (0 ≤ b ∧ b ≤ 15)) : Calls Try.prog 30 #[.agg #[.int .i64 f, .int .i64 b, .int .i64 v, .string d, .string s, .string t, .string p, .slice A n c]] w fun e w' => e = .returned (.bool (false)) ∧ Below w.heap.size w w' := by
  have hda : decide (20 < (d.size : Int)) = false := by simp; omega
  have hdc : decide (((d.size : Nat) : Int) > 20) = false := by simp; omega
  have hdb : decide (20 < (d.size : Nat)) = false := by simp; omega
  have hdd : ¬ ((d.size : Nat) : Int) > 20 := by omega
  have hsa : decide (20 < (s.size : Int)) = false := by simp; omega
  have hsc : decide (((s.size : Nat) : Int) > 20) = false := by simp; omega
  have hsb : decide (20 < (s.size : Nat)) = false := by simp; omega
  have hsd : ¬ ((s.size : Nat) : Int) > 20 := by omega
  have hb15 := in_at b 0 15 false (by symm; rw [Bool.and_eq_false_iff, decide_eq_false_iff_not, decide_eq_false_iff_not]; omega)
  clear hd hs hb
  go_enter Try.func30, Try.ntmps30
  go_wp2_with (first
    | (go_at_call 72; (with_reducible refine (hb15 _).mono ?_); rintro e w1 ⟨rfl, rfl⟩))
  go_ret
  exact ⟨rfl, (Below.refl _ _).alloc (Nat.le_refl _) _⟩
set_option maxHeartbeats 8000000 in
set_option maxRecDepth 100000 in
theorem gh_a3 (f b v : Int) (d s t p : ByteArray) (A : Option Addr) (c n : Nat) (w : World) (hd : ¬ (d.size > 20)) (hs : ¬ (s.size > 20)) (hb : 0 ≤ b ∧ b ≤ 15) (ht : t.size > 200) : Calls Try.prog 30 #[.agg #[.int .i64 f, .int .i64 b, .int .i64 v, .string d, .string s, .string t, .string p, .slice A n c]] w fun e w' => e = .returned (.bool (false)) ∧ Below w.heap.size w w' := by
  have hda : decide (20 < (d.size : Int)) = false := by simp; omega
  have hdc : decide (((d.size : Nat) : Int) > 20) = false := by simp; omega
  have hdb : decide (20 < (d.size : Nat)) = false := by simp; omega
  have hdd : ¬ ((d.size : Nat) : Int) > 20 := by omega
  have hsa : decide (20 < (s.size : Int)) = false := by simp; omega
  have hsc : decide (((s.size : Nat) : Int) > 20) = false := by simp; omega
  have hsb : decide (20 < (s.size : Nat)) = false := by simp; omega
  have hsd : ¬ ((s.size : Nat) : Int) > 20 := by omega
  have hb15 := in_at b 0 15 true (by simp only [Bool.true_eq, Bool.and_eq_true, decide_eq_true_eq]; omega)
  have hta : decide (200 < (t.size : Int)) = true := by simp; omega
  have htc : decide (((t.size : Nat) : Int) > 200) = true := by simp; omega
  have htb : decide (200 < (t.size : Nat)) = true := by simp; omega
  have htd : ((t.size : Nat) : Int) > 200 := by omega
  clear hd hs hb ht
  go_enter Try.func30, Try.ntmps30
  go_wp2_with (first
    | (go_at_call 72; (with_reducible refine (hb15 _).mono ?_); rintro e w1 ⟨rfl, rfl⟩))
  go_ret
  exact ⟨rfl, (Below.refl _ _).alloc (Nat.le_refl _) _⟩
set_option maxHeartbeats 8000000 in
set_option maxRecDepth 100000 in
theorem gh_a4 (f b v : Int) (d s t p : ByteArray) (A : Option Addr) (c n : Nat) (w : World) (hd : ¬ (d.size > 20)) (hs : ¬ (s.size > 20)) (hb : 0 ≤ b ∧ b ≤ 15) (ht : ¬ (t.size > 200)) (hp : p.size > 1200) : Calls Try.prog 30 #[.agg #[.int .i64 f, .int .i64 b, .int .i64 v, .string d, .string s, .string t, .string p, .slice A n c]] w fun e w' => e = .returned (.bool (false)) ∧ Below w.heap.size w w' := by
  have hda : decide (20 < (d.size : Int)) = false := by simp; omega
  have hdc : decide (((d.size : Nat) : Int) > 20) = false := by simp; omega
  have hdb : decide (20 < (d.size : Nat)) = false := by simp; omega
  have hdd : ¬ ((d.size : Nat) : Int) > 20 := by omega
  have hsa : decide (20 < (s.size : Int)) = false := by simp; omega
  have hsc : decide (((s.size : Nat) : Int) > 20) = false := by simp; omega
  have hsb : decide (20 < (s.size : Nat)) = false := by simp; omega
  have hsd : ¬ ((s.size : Nat) : Int) > 20 := by omega
  have hb15 := in_at b 0 15 true (by simp only [Bool.true_eq, Bool.and_eq_true, decide_eq_true_eq]; omega)
  have hta : decide (200 < (t.size : Int)) = false := by simp; omega
  have htc : decide (((t.size : Nat) : Int) > 200) = false := by simp; omega
  have htb : decide (200 < (t.size : Nat)) = false := by simp; omega
  have htd : ¬ ((t.size : Nat) : Int) > 200 := by omega
  have hpa : decide (1200 < (p.size : Int)) = true := by simp; omega
  have hpc : decide (((p.size : Nat) : Int) > 1200) = true := by simp; omega
  have hpb : decide (1200 < (p.size : Nat)) = true := by simp; omega
  have hpd : ((p.size : Nat) : Int) > 1200 := by omega
  clear hd hs hb ht hp
  go_enter Try.func30, Try.ntmps30
  go_wp2_with (first
    | (go_at_call 72; (with_reducible refine (hb15 _).mono ?_); rintro e w1 ⟨rfl, rfl⟩))
  go_ret
  exact ⟨rfl, (Below.refl _ _).alloc (Nat.le_refl _) _⟩
set_option maxHeartbeats 8000000 in
set_option maxRecDepth 100000 in
theorem gh_q1 (f b v : Int) (d s t p : ByteArray) (A : Option Addr) (c n : Nat) (w : World) (hd : ¬ (d.size > 20)) (hs : ¬ (s.size > 20)) (hb : 0 ≤ b ∧ b ≤ 15) (ht : ¬ (t.size > 200)) (hp : ¬ (p.size > 1200)) (hf0 : ¬ (f = 0)) (hte : ¬ (t.toList = ([] : List UInt8))) : Calls Try.prog 30 #[.agg #[.int .i64 f, .int .i64 b, .int .i64 v, .string d, .string s, .string t, .string p, .slice A n c]] w fun e w' => e = .returned (.bool (false)) ∧ Below w.heap.size w w' := by
  have hda : decide (20 < (d.size : Int)) = false := by simp; omega
  have hdc : decide (((d.size : Nat) : Int) > 20) = false := by simp; omega
  have hdb : decide (20 < (d.size : Nat)) = false := by simp; omega
  have hdd : ¬ ((d.size : Nat) : Int) > 20 := by omega
  have hsa : decide (20 < (s.size : Int)) = false := by simp; omega
  have hsc : decide (((s.size : Nat) : Int) > 20) = false := by simp; omega
  have hsb : decide (20 < (s.size : Nat)) = false := by simp; omega
  have hsd : ¬ ((s.size : Nat) : Int) > 20 := by omega
  have hb15 := in_at b 0 15 true (by simp only [Bool.true_eq, Bool.and_eq_true, decide_eq_true_eq]; omega)
  have hta : decide (200 < (t.size : Int)) = false := by simp; omega
  have htc : decide (((t.size : Nat) : Int) > 200) = false := by simp; omega
  have htb : decide (200 < (t.size : Nat)) = false := by simp; omega
  have htd : ¬ ((t.size : Nat) : Int) > 200 := by omega
  have hpa : decide (1200 < (p.size : Int)) = false := by simp; omega
  have hpc : decide (((p.size : Nat) : Int) > 1200) = false := by simp; omega
  have hpb : decide (1200 < (p.size : Nat)) = false := by simp; omega
  have hpd : ¬ ((p.size : Nat) : Int) > 1200 := by omega
  have hf0b : (f == 0) = false := beq_eq_false_iff_ne.mpr hf0
  have hf0c : (f != 0) = true := bne_iff_ne.mpr hf0
  have hteb : (t.toList == ([] : List UInt8)) = false := beq_eq_false_iff_ne.mpr hte
  have htec : (t.toList != ([] : List UInt8)) = true := bne_iff_ne.mpr hte
  clear hd hs hb ht hp
  go_enter Try.func30, Try.ntmps30
  go_wp2_with (first
    | (go_at_call 72; (with_reducible refine (hb15 _).mono ?_); rintro e w1 ⟨rfl, rfl⟩))
  go_ret
  exact ⟨rfl, (Below.refl _ _).alloc (Nat.le_refl _) _⟩
set_option maxHeartbeats 8000000 in
set_option maxRecDepth 100000 in
theorem gh_q2 (f b v : Int) (d s t p : ByteArray) (A : Option Addr) (c n : Nat) (w : World) (hd : ¬ (d.size > 20)) (hs : ¬ (s.size > 20)) (hb : 0 ≤ b ∧ b ≤ 15) (ht : ¬ (t.size > 200)) (hp : ¬ (p.size > 1200)) (hf0 : f = 0) (hf4 : ¬ (f = 4)) (hl0 : ¬ (n = 0)) : Calls Try.prog 30 #[.agg #[.int .i64 f, .int .i64 b, .int .i64 v, .string d, .string s, .string t, .string p, .slice A n c]] w fun e w' => e = .returned (.bool (false)) ∧ Below w.heap.size w w' := by
  subst hf0
  have hda : decide (20 < (d.size : Int)) = false := by simp; omega
  have hdc : decide (((d.size : Nat) : Int) > 20) = false := by simp; omega
  have hdb : decide (20 < (d.size : Nat)) = false := by simp; omega
  have hdd : ¬ ((d.size : Nat) : Int) > 20 := by omega
  have hsa : decide (20 < (s.size : Int)) = false := by simp; omega
  have hsc : decide (((s.size : Nat) : Int) > 20) = false := by simp; omega
  have hsb : decide (20 < (s.size : Nat)) = false := by simp; omega
  have hsd : ¬ ((s.size : Nat) : Int) > 20 := by omega
  have hb15 := in_at b 0 15 true (by simp only [Bool.true_eq, Bool.and_eq_true, decide_eq_true_eq]; omega)
  have hta : decide (200 < (t.size : Int)) = false := by simp; omega
  have htc : decide (((t.size : Nat) : Int) > 200) = false := by simp; omega
  have htb : decide (200 < (t.size : Nat)) = false := by simp; omega
  have htd : ¬ ((t.size : Nat) : Int) > 200 := by omega
  have hpa : decide (1200 < (p.size : Int)) = false := by simp; omega
  have hpc : decide (((p.size : Nat) : Int) > 1200) = false := by simp; omega
  have hpb : decide (1200 < (p.size : Nat)) = false := by simp; omega
  have hpd : ¬ ((p.size : Nat) : Int) > 1200 := by omega
  have hl0a : decide (0 < (n : Int)) = true := by simp; omega
  have hl0c : decide (((n : Nat) : Int) > 0) = true := by simp; omega
  have hl0b : decide (0 < (n : Nat)) = true := by simp; omega
  have hl0d : ((n : Nat) : Int) > 0 := by omega
  clear hd hs hb ht hp hl0
  go_enter Try.func30, Try.ntmps30
  go_wp2_with (first
    | (go_at_call 72; (with_reducible refine (hb15 _).mono ?_); rintro e w1 ⟨rfl, rfl⟩))
  go_ret
  exact ⟨rfl, (Below.refl _ _).alloc (Nat.le_refl _) _⟩
set_option maxHeartbeats 8000000 in
set_option maxRecDepth 100000 in
theorem gh_q3 (f b v : Int) (d s t p : ByteArray) (A : Option Addr) (c n : Nat) (w : World) (hd : ¬ (d.size > 20)) (hs : ¬ (s.size > 20)) (hb : 0 ≤ b ∧ b ≤ 15) (ht : ¬ (t.size > 200)) (hp : ¬ (p.size > 1200)) (hf0 : ¬ (f = 0)) (hte : t.toList = ([] : List UInt8)) (hf4 : ¬ (f = 4)) (hl0 : ¬ (n = 0)) : Calls Try.prog 30 #[.agg #[.int .i64 f, .int .i64 b, .int .i64 v, .string d, .string s, .string t, .string p, .slice A n c]] w fun e w' => e = .returned (.bool (false)) ∧ Below w.heap.size w w' := by
  have hda : decide (20 < (d.size : Int)) = false := by simp; omega
  have hdc : decide (((d.size : Nat) : Int) > 20) = false := by simp; omega
  have hdb : decide (20 < (d.size : Nat)) = false := by simp; omega
  have hdd : ¬ ((d.size : Nat) : Int) > 20 := by omega
  have hsa : decide (20 < (s.size : Int)) = false := by simp; omega
  have hsc : decide (((s.size : Nat) : Int) > 20) = false := by simp; omega
  have hsb : decide (20 < (s.size : Nat)) = false := by simp; omega
  have hsd : ¬ ((s.size : Nat) : Int) > 20 := by omega
  have hb15 := in_at b 0 15 true (by simp only [Bool.true_eq, Bool.and_eq_true, decide_eq_true_eq]; omega)
  have hta : decide (200 < (t.size : Int)) = false := by simp; omega
  have htc : decide (((t.size : Nat) : Int) > 200) = false := by simp; omega
  have htb : decide (200 < (t.size : Nat)) = false := by simp; omega
  have htd : ¬ ((t.size : Nat) : Int) > 200 := by omega
  have hpa : decide (1200 < (p.size : Int)) = false := by simp; omega
  have hpc : decide (((p.size : Nat) : Int) > 1200) = false := by simp; omega
  have hpb : decide (1200 < (p.size : Nat)) = false := by simp; omega
  have hpd : ¬ ((p.size : Nat) : Int) > 1200 := by omega
  have hf0b : (f == 0) = false := beq_eq_false_iff_ne.mpr hf0
  have hf0c : (f != 0) = true := bne_iff_ne.mpr hf0
  have hteb : (t.toList == ([] : List UInt8)) = true := beq_iff_eq.mpr hte
  have htec : (t.toList != ([] : List UInt8)) = false := bne_eq_false_iff_eq.mpr hte
  have hf4b : (f == 4) = false := beq_eq_false_iff_ne.mpr hf4
  have hf4c : (f != 4) = true := bne_iff_ne.mpr hf4
  have hl0a : decide (0 < (n : Int)) = true := by simp; omega
  have hl0c : decide (((n : Nat) : Int) > 0) = true := by simp; omega
  have hl0b : decide (0 < (n : Nat)) = true := by simp; omega
  have hl0d : ((n : Nat) : Int) > 0 := by omega
  clear hd hs hb ht hp hl0
  go_enter Try.func30, Try.ntmps30
  go_wp2_with (first
    | (go_at_call 72; (with_reducible refine (hb15 _).mono ?_); rintro e w1 ⟨rfl, rfl⟩))
  go_ret
  exact ⟨rfl, (Below.refl _ _).alloc (Nat.le_refl _) _⟩
set_option maxHeartbeats 8000000 in
set_option maxRecDepth 100000 in
theorem gh_A1 (f b v : Int) (d s t p : ByteArray) (A : Option Addr) (c n : Nat) (w : World) (hd : ¬ (d.size > 20)) (hs : ¬ (s.size > 20)) (hb : 0 ≤ b ∧ b ≤ 15) (ht : ¬ (t.size > 200)) (hp : ¬ (p.size > 1200)) (hf0 : f = 0) (hf4 : ¬ (f = 4)) (hl0 : n = 0) (hlg : 0 ≤ f ∧ f ≤ 3) (hvv : ¬ (1 ≤ v ∧ v ≤ 4294967295)) : Calls Try.prog 30 #[.agg #[.int .i64 f, .int .i64 b, .int .i64 v, .string d, .string s, .string t, .string p, .slice A n c]] w fun e w' => e = .returned (.bool (false)) ∧ Below w.heap.size w w' := by
  subst hf0
  have hda : decide (20 < (d.size : Int)) = false := by simp; omega
  have hdc : decide (((d.size : Nat) : Int) > 20) = false := by simp; omega
  have hdb : decide (20 < (d.size : Nat)) = false := by simp; omega
  have hdd : ¬ ((d.size : Nat) : Int) > 20 := by omega
  have hsa : decide (20 < (s.size : Int)) = false := by simp; omega
  have hsc : decide (((s.size : Nat) : Int) > 20) = false := by simp; omega
  have hsb : decide (20 < (s.size : Nat)) = false := by simp; omega
  have hsd : ¬ ((s.size : Nat) : Int) > 20 := by omega
  have hb15 := in_at b 0 15 true (by simp only [Bool.true_eq, Bool.and_eq_true, decide_eq_true_eq]; omega)
  have hta : decide (200 < (t.size : Int)) = false := by simp; omega
  have htc : decide (((t.size : Nat) : Int) > 200) = false := by simp; omega
  have htb : decide (200 < (t.size : Nat)) = false := by simp; omega
  have htd : ¬ ((t.size : Nat) : Int) > 200 := by omega
  have hpa : decide (1200 < (p.size : Int)) = false := by simp; omega
  have hpc : decide (((p.size : Nat) : Int) > 1200) = false := by simp; omega
  have hpb : decide (1200 < (p.size : Nat)) = false := by simp; omega
  have hpd : ¬ ((p.size : Nat) : Int) > 1200 := by omega
  have hl0a : decide (0 < (n : Int)) = false := by simp; omega
  have hl0c : decide (((n : Nat) : Int) > 0) = false := by simp; omega
  have hl0b : decide (0 < (n : Nat)) = false := by simp; omega
  have hl0d : ¬ ((n : Nat) : Int) > 0 := by omega
  have hlong := long_at 0 true (by decide)
  have hver := ver_at v false (by symm; rw [Bool.and_eq_false_iff, decide_eq_false_iff_not, decide_eq_false_iff_not]; omega)
  clear hd hs hb ht hp hl0 hlg hvv
  go_enter Try.func30, Try.ntmps30
  go_wp2_with (first
    | (go_at_call 72; (with_reducible refine (hb15 _).mono ?_); rintro e w1 ⟨rfl, rfl⟩)
    | (go_at_call 73; refine (hlong _).mono ?_; rintro e w3 ⟨rfl, rfl⟩)
    | (go_at_call 74; refine (hver _).mono ?_; rintro e w4 ⟨rfl, rfl⟩))
  go_ret
  exact ⟨rfl, (Below.refl _ _).alloc (Nat.le_refl _) _⟩
set_option maxHeartbeats 8000000 in
set_option maxRecDepth 100000 in
theorem gh_A2 (f b v : Int) (d s t p : ByteArray) (A : Option Addr) (c n : Nat) (w : World) (hd : ¬ (d.size > 20)) (hs : ¬ (s.size > 20)) (hb : 0 ≤ b ∧ b ≤ 15) (ht : ¬ (t.size > 200)) (hp : ¬ (p.size > 1200)) (hf0 : f = 0) (hf4 : ¬ (f = 4)) (hl0 : n = 0) (hlg : 0 ≤ f ∧ f ≤ 3) (hvv : 1 ≤ v ∧ v ≤ 4294967295) (hpe : p.toList = ([] : List UInt8)) : Calls Try.prog 30 #[.agg #[.int .i64 f, .int .i64 b, .int .i64 v, .string d, .string s, .string t, .string p, .slice A n c]] w fun e w' => e = .returned (.bool (false)) ∧ Below w.heap.size w w' := by
  subst hf0
  have hda : decide (20 < (d.size : Int)) = false := by simp; omega
  have hdc : decide (((d.size : Nat) : Int) > 20) = false := by simp; omega
  have hdb : decide (20 < (d.size : Nat)) = false := by simp; omega
  have hdd : ¬ ((d.size : Nat) : Int) > 20 := by omega
  have hsa : decide (20 < (s.size : Int)) = false := by simp; omega
  have hsc : decide (((s.size : Nat) : Int) > 20) = false := by simp; omega
  have hsb : decide (20 < (s.size : Nat)) = false := by simp; omega
  have hsd : ¬ ((s.size : Nat) : Int) > 20 := by omega
  have hb15 := in_at b 0 15 true (by simp only [Bool.true_eq, Bool.and_eq_true, decide_eq_true_eq]; omega)
  have hta : decide (200 < (t.size : Int)) = false := by simp; omega
  have htc : decide (((t.size : Nat) : Int) > 200) = false := by simp; omega
  have htb : decide (200 < (t.size : Nat)) = false := by simp; omega
  have htd : ¬ ((t.size : Nat) : Int) > 200 := by omega
  have hpa : decide (1200 < (p.size : Int)) = false := by simp; omega
  have hpc : decide (((p.size : Nat) : Int) > 1200) = false := by simp; omega
  have hpb : decide (1200 < (p.size : Nat)) = false := by simp; omega
  have hpd : ¬ ((p.size : Nat) : Int) > 1200 := by omega
  have hl0a : decide (0 < (n : Int)) = false := by simp; omega
  have hl0c : decide (((n : Nat) : Int) > 0) = false := by simp; omega
  have hl0b : decide (0 < (n : Nat)) = false := by simp; omega
  have hl0d : ¬ ((n : Nat) : Int) > 0 := by omega
  have hlong := long_at 0 true (by decide)
  have hver := ver_at v true (by simp only [Bool.true_eq, Bool.and_eq_true, decide_eq_true_eq]; omega)
  have hpeb : (p.toList == ([] : List UInt8)) = true := beq_iff_eq.mpr hpe
  have hpec : (p.toList != ([] : List UInt8)) = false := bne_eq_false_iff_eq.mpr hpe
  clear hd hs hb ht hp hl0 hlg hvv
  go_enter Try.func30, Try.ntmps30
  go_wp2_with (first
    | (go_at_call 72; (with_reducible refine (hb15 _).mono ?_); rintro e w1 ⟨rfl, rfl⟩)
    | (go_at_call 73; refine (hlong _).mono ?_; rintro e w3 ⟨rfl, rfl⟩)
    | (go_at_call 74; refine (hver _).mono ?_; rintro e w4 ⟨rfl, rfl⟩))
  go_ret
  exact ⟨rfl, (Below.refl _ _).alloc (Nat.le_refl _) _⟩
set_option maxHeartbeats 8000000 in
set_option maxRecDepth 100000 in
theorem gh_A3 (f b v : Int) (d s t p : ByteArray) (A : Option Addr) (c n : Nat) (w : World) (hd : ¬ (d.size > 20)) (hs : ¬ (s.size > 20)) (hb : 0 ≤ b ∧ b ≤ 15) (ht : ¬ (t.size > 200)) (hp : ¬ (p.size > 1200)) (hf0 : f = 0) (hf4 : ¬ (f = 4)) (hl0 : n = 0) (hlg : 0 ≤ f ∧ f ≤ 3) (hvv : 1 ≤ v ∧ v ≤ 4294967295) (hpe : ¬ (p.toList = ([] : List UInt8))) : Calls Try.prog 30 #[.agg #[.int .i64 f, .int .i64 b, .int .i64 v, .string d, .string s, .string t, .string p, .slice A n c]] w fun e w' => e = .returned (.bool (true)) ∧ Below w.heap.size w w' := by
  subst hf0
  have hda : decide (20 < (d.size : Int)) = false := by simp; omega
  have hdc : decide (((d.size : Nat) : Int) > 20) = false := by simp; omega
  have hdb : decide (20 < (d.size : Nat)) = false := by simp; omega
  have hdd : ¬ ((d.size : Nat) : Int) > 20 := by omega
  have hsa : decide (20 < (s.size : Int)) = false := by simp; omega
  have hsc : decide (((s.size : Nat) : Int) > 20) = false := by simp; omega
  have hsb : decide (20 < (s.size : Nat)) = false := by simp; omega
  have hsd : ¬ ((s.size : Nat) : Int) > 20 := by omega
  have hb15 := in_at b 0 15 true (by simp only [Bool.true_eq, Bool.and_eq_true, decide_eq_true_eq]; omega)
  have hta : decide (200 < (t.size : Int)) = false := by simp; omega
  have htc : decide (((t.size : Nat) : Int) > 200) = false := by simp; omega
  have htb : decide (200 < (t.size : Nat)) = false := by simp; omega
  have htd : ¬ ((t.size : Nat) : Int) > 200 := by omega
  have hpa : decide (1200 < (p.size : Int)) = false := by simp; omega
  have hpc : decide (((p.size : Nat) : Int) > 1200) = false := by simp; omega
  have hpb : decide (1200 < (p.size : Nat)) = false := by simp; omega
  have hpd : ¬ ((p.size : Nat) : Int) > 1200 := by omega
  have hl0a : decide (0 < (n : Int)) = false := by simp; omega
  have hl0c : decide (((n : Nat) : Int) > 0) = false := by simp; omega
  have hl0b : decide (0 < (n : Nat)) = false := by simp; omega
  have hl0d : ¬ ((n : Nat) : Int) > 0 := by omega
  have hlong := long_at 0 true (by decide)
  have hver := ver_at v true (by simp only [Bool.true_eq, Bool.and_eq_true, decide_eq_true_eq]; omega)
  have hpeb : (p.toList == ([] : List UInt8)) = false := beq_eq_false_iff_ne.mpr hpe
  have hpec : (p.toList != ([] : List UInt8)) = true := bne_iff_ne.mpr hpe
  clear hd hs hb ht hp hl0 hlg hvv
  go_enter Try.func30, Try.ntmps30
  go_wp2_with (first
    | (go_at_call 72; (with_reducible refine (hb15 _).mono ?_); rintro e w1 ⟨rfl, rfl⟩)
    | (go_at_call 73; refine (hlong _).mono ?_; rintro e w3 ⟨rfl, rfl⟩)
    | (go_at_call 74; refine (hver _).mono ?_; rintro e w4 ⟨rfl, rfl⟩))
  go_ret
  exact ⟨rfl, (Below.refl _ _).alloc (Nat.le_refl _) _⟩
set_option maxHeartbeats 8000000 in
set_option maxRecDepth 100000 in
theorem gh_C1 (f b v : Int) (d s t p : ByteArray) (A : Option Addr) (c n : Nat) (w : World) (hd : ¬ (d.size > 20)) (hs : ¬ (s.size > 20)) (hb : 0 ≤ b ∧ b ≤ 15) (ht : ¬ (t.size > 200)) (hp : ¬ (p.size > 1200)) (hf0 : ¬ (f = 0)) (hte : t.toList = ([] : List UInt8)) (hf4 : ¬ (f = 4)) (hl0 : n = 0) (hlg : 0 ≤ f ∧ f ≤ 3) (hvv : ¬ (1 ≤ v ∧ v ≤ 4294967295)) : Calls Try.prog 30 #[.agg #[.int .i64 f, .int .i64 b, .int .i64 v, .string d, .string s, .string t, .string p, .slice A n c]] w fun e w' => e = .returned (.bool (false)) ∧ Below w.heap.size w w' := by
  have hda : decide (20 < (d.size : Int)) = false := by simp; omega
  have hdc : decide (((d.size : Nat) : Int) > 20) = false := by simp; omega
  have hdb : decide (20 < (d.size : Nat)) = false := by simp; omega
  have hdd : ¬ ((d.size : Nat) : Int) > 20 := by omega
  have hsa : decide (20 < (s.size : Int)) = false := by simp; omega
  have hsc : decide (((s.size : Nat) : Int) > 20) = false := by simp; omega
  have hsb : decide (20 < (s.size : Nat)) = false := by simp; omega
  have hsd : ¬ ((s.size : Nat) : Int) > 20 := by omega
  have hb15 := in_at b 0 15 true (by simp only [Bool.true_eq, Bool.and_eq_true, decide_eq_true_eq]; omega)
  have hta : decide (200 < (t.size : Int)) = false := by simp; omega
  have htc : decide (((t.size : Nat) : Int) > 200) = false := by simp; omega
  have htb : decide (200 < (t.size : Nat)) = false := by simp; omega
  have htd : ¬ ((t.size : Nat) : Int) > 200 := by omega
  have hpa : decide (1200 < (p.size : Int)) = false := by simp; omega
  have hpc : decide (((p.size : Nat) : Int) > 1200) = false := by simp; omega
  have hpb : decide (1200 < (p.size : Nat)) = false := by simp; omega
  have hpd : ¬ ((p.size : Nat) : Int) > 1200 := by omega
  have hf0b : (f == 0) = false := beq_eq_false_iff_ne.mpr hf0
  have hf0c : (f != 0) = true := bne_iff_ne.mpr hf0
  have hteb : (t.toList == ([] : List UInt8)) = true := beq_iff_eq.mpr hte
  have htec : (t.toList != ([] : List UInt8)) = false := bne_eq_false_iff_eq.mpr hte
  have hf4b : (f == 4) = false := beq_eq_false_iff_ne.mpr hf4
  have hf4c : (f != 4) = true := bne_iff_ne.mpr hf4
  have hl0a : decide (0 < (n : Int)) = false := by simp; omega
  have hl0c : decide (((n : Nat) : Int) > 0) = false := by simp; omega
  have hl0b : decide (0 < (n : Nat)) = false := by simp; omega
  have hl0d : ¬ ((n : Nat) : Int) > 0 := by omega
  have hlong := long_at f true (by simp only [Bool.true_eq, Bool.and_eq_true, decide_eq_true_eq]; omega)
  have hver := ver_at v false (by symm; rw [Bool.and_eq_false_iff, decide_eq_false_iff_not, decide_eq_false_iff_not]; omega)
  clear hd hs hb ht hp hl0 hlg hvv
  go_enter Try.func30, Try.ntmps30
  go_wp2_with (first
    | (go_at_call 72; (with_reducible refine (hb15 _).mono ?_); rintro e w1 ⟨rfl, rfl⟩)
    | (go_at_call 73; refine (hlong _).mono ?_; rintro e w3 ⟨rfl, rfl⟩)
    | (go_at_call 74; refine (hver _).mono ?_; rintro e w4 ⟨rfl, rfl⟩))
  go_ret
  exact ⟨rfl, (Below.refl _ _).alloc (Nat.le_refl _) _⟩
set_option maxHeartbeats 8000000 in
set_option maxRecDepth 100000 in
theorem gh_C2 (f b v : Int) (d s t p : ByteArray) (A : Option Addr) (c n : Nat) (w : World) (hd : ¬ (d.size > 20)) (hs : ¬ (s.size > 20)) (hb : 0 ≤ b ∧ b ≤ 15) (ht : ¬ (t.size > 200)) (hp : ¬ (p.size > 1200)) (hf0 : ¬ (f = 0)) (hte : t.toList = ([] : List UInt8)) (hf4 : ¬ (f = 4)) (hl0 : n = 0) (hlg : 0 ≤ f ∧ f ≤ 3) (hvv : 1 ≤ v ∧ v ≤ 4294967295) (hpe : p.toList = ([] : List UInt8)) : Calls Try.prog 30 #[.agg #[.int .i64 f, .int .i64 b, .int .i64 v, .string d, .string s, .string t, .string p, .slice A n c]] w fun e w' => e = .returned (.bool (false)) ∧ Below w.heap.size w w' := by
  have hda : decide (20 < (d.size : Int)) = false := by simp; omega
  have hdc : decide (((d.size : Nat) : Int) > 20) = false := by simp; omega
  have hdb : decide (20 < (d.size : Nat)) = false := by simp; omega
  have hdd : ¬ ((d.size : Nat) : Int) > 20 := by omega
  have hsa : decide (20 < (s.size : Int)) = false := by simp; omega
  have hsc : decide (((s.size : Nat) : Int) > 20) = false := by simp; omega
  have hsb : decide (20 < (s.size : Nat)) = false := by simp; omega
  have hsd : ¬ ((s.size : Nat) : Int) > 20 := by omega
  have hb15 := in_at b 0 15 true (by simp only [Bool.true_eq, Bool.and_eq_true, decide_eq_true_eq]; omega)
  have hta : decide (200 < (t.size : Int)) = false := by simp; omega
  have htc : decide (((t.size : Nat) : Int) > 200) = false := by simp; omega
  have htb : decide (200 < (t.size : Nat)) = false := by simp; omega
  have htd : ¬ ((t.size : Nat) : Int) > 200 := by omega
  have hpa : decide (1200 < (p.size : Int)) = false := by simp; omega
  have hpc : decide (((p.size : Nat) : Int) > 1200) = false := by simp; omega
  have hpb : decide (1200 < (p.size : Nat)) = false := by simp; omega
  have hpd : ¬ ((p.size : Nat) : Int) > 1200 := by omega
  have hf0b : (f == 0) = false := beq_eq_false_iff_ne.mpr hf0
  have hf0c : (f != 0) = true := bne_iff_ne.mpr hf0
  have hteb : (t.toList == ([] : List UInt8)) = true := beq_iff_eq.mpr hte
  have htec : (t.toList != ([] : List UInt8)) = false := bne_eq_false_iff_eq.mpr hte
  have hf4b : (f == 4) = false := beq_eq_false_iff_ne.mpr hf4
  have hf4c : (f != 4) = true := bne_iff_ne.mpr hf4
  have hl0a : decide (0 < (n : Int)) = false := by simp; omega
  have hl0c : decide (((n : Nat) : Int) > 0) = false := by simp; omega
  have hl0b : decide (0 < (n : Nat)) = false := by simp; omega
  have hl0d : ¬ ((n : Nat) : Int) > 0 := by omega
  have hlong := long_at f true (by simp only [Bool.true_eq, Bool.and_eq_true, decide_eq_true_eq]; omega)
  have hver := ver_at v true (by simp only [Bool.true_eq, Bool.and_eq_true, decide_eq_true_eq]; omega)
  have hpeb : (p.toList == ([] : List UInt8)) = true := beq_iff_eq.mpr hpe
  have hpec : (p.toList != ([] : List UInt8)) = false := bne_eq_false_iff_eq.mpr hpe
  clear hd hs hb ht hp hl0 hlg hvv
  go_enter Try.func30, Try.ntmps30
  go_wp2_with (first
    | (go_at_call 72; (with_reducible refine (hb15 _).mono ?_); rintro e w1 ⟨rfl, rfl⟩)
    | (go_at_call 73; refine (hlong _).mono ?_; rintro e w3 ⟨rfl, rfl⟩)
    | (go_at_call 74; refine (hver _).mono ?_; rintro e w4 ⟨rfl, rfl⟩))
  go_ret
  exact ⟨rfl, (Below.refl _ _).alloc (Nat.le_refl _) _⟩
set_option maxHeartbeats 8000000 in
set_option maxRecDepth 100000 in
theorem gh_C3 (f b v : Int) (d s t p : ByteArray) (A : Option Addr) (c n : Nat) (w : World) (hd : ¬ (d.size > 20)) (hs : ¬ (s.size > 20)) (hb : 0 ≤ b ∧ b ≤ 15) (ht : ¬ (t.size > 200)) (hp : ¬ (p.size > 1200)) (hf0 : ¬ (f = 0)) (hte : t.toList = ([] : List UInt8)) (hf4 : ¬ (f = 4)) (hl0 : n = 0) (hlg : 0 ≤ f ∧ f ≤ 3) (hvv : 1 ≤ v ∧ v ≤ 4294967295) (hpe : ¬ (p.toList = ([] : List UInt8))) : Calls Try.prog 30 #[.agg #[.int .i64 f, .int .i64 b, .int .i64 v, .string d, .string s, .string t, .string p, .slice A n c]] w fun e w' => e = .returned (.bool (true)) ∧ Below w.heap.size w w' := by
  have hda : decide (20 < (d.size : Int)) = false := by simp; omega
  have hdc : decide (((d.size : Nat) : Int) > 20) = false := by simp; omega
  have hdb : decide (20 < (d.size : Nat)) = false := by simp; omega
  have hdd : ¬ ((d.size : Nat) : Int) > 20 := by omega
  have hsa : decide (20 < (s.size : Int)) = false := by simp; omega
  have hsc : decide (((s.size : Nat) : Int) > 20) = false := by simp; omega
  have hsb : decide (20 < (s.size : Nat)) = false := by simp; omega
  have hsd : ¬ ((s.size : Nat) : Int) > 20 := by omega
  have hb15 := in_at b 0 15 true (by simp only [Bool.true_eq, Bool.and_eq_true, decide_eq_true_eq]; omega)
  have hta : decide (200 < (t.size : Int)) = false := by simp; omega
  have htc : decide (((t.size : Nat) : Int) > 200) = false := by simp; omega
  have htb : decide (200 < (t.size : Nat)) = false := by simp; omega
  have htd : ¬ ((t.size : Nat) : Int) > 200 := by omega
  have hpa : decide (1200 < (p.size : Int)) = false := by simp; omega
  have hpc : decide (((p.size : Nat) : Int) > 1200) = false := by simp; omega
  have hpb : decide (1200 < (p.size : Nat)) = false := by simp; omega
  have hpd : ¬ ((p.size : Nat) : Int) > 1200 := by omega
  have hf0b : (f == 0) = false := beq_eq_false_iff_ne.mpr hf0
  have hf0c : (f != 0) = true := bne_iff_ne.mpr hf0
  have hteb : (t.toList == ([] : List UInt8)) = true := beq_iff_eq.mpr hte
  have htec : (t.toList != ([] : List UInt8)) = false := bne_eq_false_iff_eq.mpr hte
  have hf4b : (f == 4) = false := beq_eq_false_iff_ne.mpr hf4
  have hf4c : (f != 4) = true := bne_iff_ne.mpr hf4
  have hl0a : decide (0 < (n : Int)) = false := by simp; omega
  have hl0c : decide (((n : Nat) : Int) > 0) = false := by simp; omega
  have hl0b : decide (0 < (n : Nat)) = false := by simp; omega
  have hl0d : ¬ ((n : Nat) : Int) > 0 := by omega
  have hlong := long_at f true (by simp only [Bool.true_eq, Bool.and_eq_true, decide_eq_true_eq]; omega)
  have hver := ver_at v true (by simp only [Bool.true_eq, Bool.and_eq_true, decide_eq_true_eq]; omega)
  have hpeb : (p.toList == ([] : List UInt8)) = false := beq_eq_false_iff_ne.mpr hpe
  have hpec : (p.toList != ([] : List UInt8)) = true := bne_iff_ne.mpr hpe
  clear hd hs hb ht hp hl0 hlg hvv
  go_enter Try.func30, Try.ntmps30
  go_wp2_with (first
    | (go_at_call 72; (with_reducible refine (hb15 _).mono ?_); rintro e w1 ⟨rfl, rfl⟩)
    | (go_at_call 73; refine (hlong _).mono ?_; rintro e w3 ⟨rfl, rfl⟩)
    | (go_at_call 74; refine (hver _).mono ?_; rintro e w4 ⟨rfl, rfl⟩))
  go_ret
  exact ⟨rfl, (Below.refl _ _).alloc (Nat.le_refl _) _⟩
set_option maxHeartbeats 8000000 in
set_option maxRecDepth 100000 in
theorem gh_B1 (f b v : Int) (d s t p : ByteArray) (A : Option Addr) (c n : Nat) (w : World) (hd : ¬ (d.size > 20)) (hs : ¬ (s.size > 20)) (hb : 0 ≤ b ∧ b ≤ 15) (ht : ¬ (t.size > 200)) (hp : ¬ (p.size > 1200)) (hf0 : ¬ (f = 0)) (hte : t.toList = ([] : List UInt8)) (hf4 : f = 4) (hlg : ¬ (0 ≤ f ∧ f ≤ 3)) (hv0 : ¬ (v = 0)) (cb : Bool) (hcon : ∀ W, Below w.heap.size w W → Calls Try.prog 75 #[.slice A n c, .func (.func 76) #[] #[]] W fun e w' => e = .returned (.bool cb) ∧ W = w') : Calls Try.prog 30 #[.agg #[.int .i64 f, .int .i64 b, .int .i64 v, .string d, .string s, .string t, .string p, .slice A n c]] w fun e w' => e = .returned (.bool (false)) ∧ Below w.heap.size w w' := by
  subst hf4
  have hda : decide (20 < (d.size : Int)) = false := by simp; omega
  have hdc : decide (((d.size : Nat) : Int) > 20) = false := by simp; omega
  have hdb : decide (20 < (d.size : Nat)) = false := by simp; omega
  have hdd : ¬ ((d.size : Nat) : Int) > 20 := by omega
  have hsa : decide (20 < (s.size : Int)) = false := by simp; omega
  have hsc : decide (((s.size : Nat) : Int) > 20) = false := by simp; omega
  have hsb : decide (20 < (s.size : Nat)) = false := by simp; omega
  have hsd : ¬ ((s.size : Nat) : Int) > 20 := by omega
  have hb15 := in_at b 0 15 true (by simp only [Bool.true_eq, Bool.and_eq_true, decide_eq_true_eq]; omega)
  have hta : decide (200 < (t.size : Int)) = false := by simp; omega
  have htc : decide (((t.size : Nat) : Int) > 200) = false := by simp; omega
  have htb : decide (200 < (t.size : Nat)) = false := by simp; omega
  have htd : ¬ ((t.size : Nat) : Int) > 200 := by omega
  have hpa : decide (1200 < (p.size : Int)) = false := by simp; omega
  have hpc : decide (((p.size : Nat) : Int) > 1200) = false := by simp; omega
  have hpb : decide (1200 < (p.size : Nat)) = false := by simp; omega
  have hpd : ¬ ((p.size : Nat) : Int) > 1200 := by omega
  have hteb : (t.toList == ([] : List UInt8)) = true := beq_iff_eq.mpr hte
  have htec : (t.toList != ([] : List UInt8)) = false := bne_eq_false_iff_eq.mpr hte
  have hlong := long_at 4 false (by decide)
  have hv0b : (v == 0) = false := beq_eq_false_iff_ne.mpr hv0
  have hv0c : (v != 0) = true := bne_iff_ne.mpr hv0
  clear hd hs hb ht hp hlg
  go_enter Try.func30, Try.ntmps30
  go_wp2_with (first
    | (go_at_call 72; (with_reducible refine (hb15 _).mono ?_); rintro e w1 ⟨rfl, rfl⟩)
    | (go_at_call 73; refine (hlong _).mono ?_; rintro e w3 ⟨rfl, rfl⟩)
    | (go_at_call 75; refine (hcon _ ((Below.refl _ _).alloc (Nat.le_refl _) _)).mono ?_; rintro e w5 ⟨rfl, rfl⟩))
  go_ret
  exact ⟨rfl, (Below.refl _ _).alloc (Nat.le_refl _) _⟩
set_option maxHeartbeats 8000000 in
set_option maxRecDepth 100000 in
theorem gh_B2 (f b v : Int) (d s t p : ByteArray) (A : Option Addr) (c n : Nat) (w : World) (hd : ¬ (d.size > 20)) (hs : ¬ (s.size > 20)) (hb : 0 ≤ b ∧ b ≤ 15) (ht : ¬ (t.size > 200)) (hp : ¬ (p.size > 1200)) (hf0 : ¬ (f = 0)) (hte : t.toList = ([] : List UInt8)) (hf4 : f = 4) (hlg : ¬ (0 ≤ f ∧ f ≤ 3)) (hv0 : v = 0) (hpe : ¬ (p.toList = ([] : List UInt8))) (cb : Bool) (hcon : ∀ W, Below w.heap.size w W → Calls Try.prog 75 #[.slice A n c, .func (.func 76) #[] #[]] W fun e w' => e = .returned (.bool cb) ∧ W = w') : Calls Try.prog 30 #[.agg #[.int .i64 f, .int .i64 b, .int .i64 v, .string d, .string s, .string t, .string p, .slice A n c]] w fun e w' => e = .returned (.bool (false)) ∧ Below w.heap.size w w' := by
  subst hf4
  have hda : decide (20 < (d.size : Int)) = false := by simp; omega
  have hdc : decide (((d.size : Nat) : Int) > 20) = false := by simp; omega
  have hdb : decide (20 < (d.size : Nat)) = false := by simp; omega
  have hdd : ¬ ((d.size : Nat) : Int) > 20 := by omega
  have hsa : decide (20 < (s.size : Int)) = false := by simp; omega
  have hsc : decide (((s.size : Nat) : Int) > 20) = false := by simp; omega
  have hsb : decide (20 < (s.size : Nat)) = false := by simp; omega
  have hsd : ¬ ((s.size : Nat) : Int) > 20 := by omega
  have hb15 := in_at b 0 15 true (by simp only [Bool.true_eq, Bool.and_eq_true, decide_eq_true_eq]; omega)
  have hta : decide (200 < (t.size : Int)) = false := by simp; omega
  have htc : decide (((t.size : Nat) : Int) > 200) = false := by simp; omega
  have htb : decide (200 < (t.size : Nat)) = false := by simp; omega
  have htd : ¬ ((t.size : Nat) : Int) > 200 := by omega
  have hpa : decide (1200 < (p.size : Int)) = false := by simp; omega
  have hpc : decide (((p.size : Nat) : Int) > 1200) = false := by simp; omega
  have hpb : decide (1200 < (p.size : Nat)) = false := by simp; omega
  have hpd : ¬ ((p.size : Nat) : Int) > 1200 := by omega
  have hteb : (t.toList == ([] : List UInt8)) = true := beq_iff_eq.mpr hte
  have htec : (t.toList != ([] : List UInt8)) = false := bne_eq_false_iff_eq.mpr hte
  have hlong := long_at 4 false (by decide)
  have hv0b : (v == 0) = true := beq_iff_eq.mpr hv0
  have hv0c : (v != 0) = false := bne_eq_false_iff_eq.mpr hv0
  have hpeb : (p.toList == ([] : List UInt8)) = false := beq_eq_false_iff_ne.mpr hpe
  have hpec : (p.toList != ([] : List UInt8)) = true := bne_iff_ne.mpr hpe
  clear hd hs hb ht hp hlg
  go_enter Try.func30, Try.ntmps30
  go_wp2_with (first
    | (go_at_call 72; (with_reducible refine (hb15 _).mono ?_); rintro e w1 ⟨rfl, rfl⟩)
    | (go_at_call 73; refine (hlong _).mono ?_; rintro e w3 ⟨rfl, rfl⟩)
    | (go_at_call 75; refine (hcon _ ((Below.refl _ _).alloc (Nat.le_refl _) _)).mono ?_; rintro e w5 ⟨rfl, rfl⟩))
  go_ret
  exact ⟨rfl, (Below.refl _ _).alloc (Nat.le_refl _) _⟩
set_option maxHeartbeats 8000000 in
set_option maxRecDepth 100000 in
theorem gh_B3 (f b v : Int) (d s t p : ByteArray) (A : Option Addr) (c n : Nat) (w : World) (hd : ¬ (d.size > 20)) (hs : ¬ (s.size > 20)) (hb : 0 ≤ b ∧ b ≤ 15) (ht : ¬ (t.size > 200)) (hp : ¬ (p.size > 1200)) (hf0 : ¬ (f = 0)) (hte : t.toList = ([] : List UInt8)) (hf4 : f = 4) (hlg : ¬ (0 ≤ f ∧ f ≤ 3)) (hv0 : v = 0) (hpe : p.toList = ([] : List UInt8)) (hll : ¬ (1 ≤ n ∧ n ≤ 20)) (cb : Bool) (hcon : ∀ W, Below w.heap.size w W → Calls Try.prog 75 #[.slice A n c, .func (.func 76) #[] #[]] W fun e w' => e = .returned (.bool cb) ∧ W = w') : Calls Try.prog 30 #[.agg #[.int .i64 f, .int .i64 b, .int .i64 v, .string d, .string s, .string t, .string p, .slice A n c]] w fun e w' => e = .returned (.bool (false)) ∧ Below w.heap.size w w' := by
  subst hf4
  have hda : decide (20 < (d.size : Int)) = false := by simp; omega
  have hdc : decide (((d.size : Nat) : Int) > 20) = false := by simp; omega
  have hdb : decide (20 < (d.size : Nat)) = false := by simp; omega
  have hdd : ¬ ((d.size : Nat) : Int) > 20 := by omega
  have hsa : decide (20 < (s.size : Int)) = false := by simp; omega
  have hsc : decide (((s.size : Nat) : Int) > 20) = false := by simp; omega
  have hsb : decide (20 < (s.size : Nat)) = false := by simp; omega
  have hsd : ¬ ((s.size : Nat) : Int) > 20 := by omega
  have hb15 := in_at b 0 15 true (by simp only [Bool.true_eq, Bool.and_eq_true, decide_eq_true_eq]; omega)
  have hta : decide (200 < (t.size : Int)) = false := by simp; omega
  have htc : decide (((t.size : Nat) : Int) > 200) = false := by simp; omega
  have htb : decide (200 < (t.size : Nat)) = false := by simp; omega
  have htd : ¬ ((t.size : Nat) : Int) > 200 := by omega
  have hpa : decide (1200 < (p.size : Int)) = false := by simp; omega
  have hpc : decide (((p.size : Nat) : Int) > 1200) = false := by simp; omega
  have hpb : decide (1200 < (p.size : Nat)) = false := by simp; omega
  have hpd : ¬ ((p.size : Nat) : Int) > 1200 := by omega
  have hteb : (t.toList == ([] : List UInt8)) = true := beq_iff_eq.mpr hte
  have htec : (t.toList != ([] : List UInt8)) = false := bne_eq_false_iff_eq.mpr hte
  have hlong := long_at 4 false (by decide)
  have hv0b : (v == 0) = true := beq_iff_eq.mpr hv0
  have hv0c : (v != 0) = false := bne_eq_false_iff_eq.mpr hv0
  have hpeb : (p.toList == ([] : List UInt8)) = true := beq_iff_eq.mpr hpe
  have hpec : (p.toList != ([] : List UInt8)) = false := bne_eq_false_iff_eq.mpr hpe
  have hlen := in_at (n : Int) 1 20 false (by symm; rw [Bool.and_eq_false_iff, decide_eq_false_iff_not, decide_eq_false_iff_not]; omega)
  clear hd hs hb ht hp hlg hll
  go_enter Try.func30, Try.ntmps30
  go_wp2_with (first
    | (go_at_call 72; (with_reducible refine (hb15 _).mono ?_); rintro e w1 ⟨rfl, rfl⟩)
    | (go_at_call 72; (with_reducible refine (hlen _).mono ?_); rintro e w2 ⟨rfl, rfl⟩)
    | (go_at_call 73; refine (hlong _).mono ?_; rintro e w3 ⟨rfl, rfl⟩)
    | (go_at_call 75; refine (hcon _ ((Below.refl _ _).alloc (Nat.le_refl _) _)).mono ?_; rintro e w5 ⟨rfl, rfl⟩))
  go_ret
  exact ⟨rfl, (Below.refl _ _).alloc (Nat.le_refl _) _⟩
set_option maxHeartbeats 8000000 in
set_option maxRecDepth 100000 in
theorem gh_B4 (f b v : Int) (d s t p : ByteArray) (A : Option Addr) (c n : Nat) (w : World) (hd : ¬ (d.size > 20)) (hs : ¬ (s.size > 20)) (hb : 0 ≤ b ∧ b ≤ 15) (ht : ¬ (t.size > 200)) (hp : ¬ (p.size > 1200)) (hf0 : ¬ (f = 0)) (hte : t.toList = ([] : List UInt8)) (hf4 : f = 4) (hlg : ¬ (0 ≤ f ∧ f ≤ 3)) (hv0 : v = 0) (hpe : p.toList = ([] : List UInt8)) (hll : 1 ≤ n ∧ n ≤ 20) (cb : Bool) (hcon : ∀ W, Below w.heap.size w W → Calls Try.prog 75 #[.slice A n c, .func (.func 76) #[] #[]] W fun e w' => e = .returned (.bool cb) ∧ W = w') : Calls Try.prog 30 #[.agg #[.int .i64 f, .int .i64 b, .int .i64 v, .string d, .string s, .string t, .string p, .slice A n c]] w fun e w' => e = .returned (.bool (!cb)) ∧ Below w.heap.size w w' := by
  subst hf4
  have hda : decide (20 < (d.size : Int)) = false := by simp; omega
  have hdc : decide (((d.size : Nat) : Int) > 20) = false := by simp; omega
  have hdb : decide (20 < (d.size : Nat)) = false := by simp; omega
  have hdd : ¬ ((d.size : Nat) : Int) > 20 := by omega
  have hsa : decide (20 < (s.size : Int)) = false := by simp; omega
  have hsc : decide (((s.size : Nat) : Int) > 20) = false := by simp; omega
  have hsb : decide (20 < (s.size : Nat)) = false := by simp; omega
  have hsd : ¬ ((s.size : Nat) : Int) > 20 := by omega
  have hb15 := in_at b 0 15 true (by simp only [Bool.true_eq, Bool.and_eq_true, decide_eq_true_eq]; omega)
  have hta : decide (200 < (t.size : Int)) = false := by simp; omega
  have htc : decide (((t.size : Nat) : Int) > 200) = false := by simp; omega
  have htb : decide (200 < (t.size : Nat)) = false := by simp; omega
  have htd : ¬ ((t.size : Nat) : Int) > 200 := by omega
  have hpa : decide (1200 < (p.size : Int)) = false := by simp; omega
  have hpc : decide (((p.size : Nat) : Int) > 1200) = false := by simp; omega
  have hpb : decide (1200 < (p.size : Nat)) = false := by simp; omega
  have hpd : ¬ ((p.size : Nat) : Int) > 1200 := by omega
  have hteb : (t.toList == ([] : List UInt8)) = true := beq_iff_eq.mpr hte
  have htec : (t.toList != ([] : List UInt8)) = false := bne_eq_false_iff_eq.mpr hte
  have hlong := long_at 4 false (by decide)
  have hv0b : (v == 0) = true := beq_iff_eq.mpr hv0
  have hv0c : (v != 0) = false := bne_eq_false_iff_eq.mpr hv0
  have hpeb : (p.toList == ([] : List UInt8)) = true := beq_iff_eq.mpr hpe
  have hpec : (p.toList != ([] : List UInt8)) = false := bne_eq_false_iff_eq.mpr hpe
  have hlen := in_at (n : Int) 1 20 true (by simp only [Bool.true_eq, Bool.and_eq_true, decide_eq_true_eq]; omega)
  clear hd hs hb ht hp hlg hll
  go_enter Try.func30, Try.ntmps30
  go_wp2_with (first
    | (go_at_call 72; (with_reducible refine (hb15 _).mono ?_); rintro e w1 ⟨rfl, rfl⟩)
    | (go_at_call 72; (with_reducible refine (hlen _).mono ?_); rintro e w2 ⟨rfl, rfl⟩)
    | (go_at_call 73; refine (hlong _).mono ?_; rintro e w3 ⟨rfl, rfl⟩)
    | (go_at_call 75; refine (hcon _ ((Below.refl _ _).alloc (Nat.le_refl _) _)).mono ?_; rintro e w5 ⟨rfl, rfl⟩))
  go_ret
  exact ⟨rfl, (Below.refl _ _).alloc (Nat.le_refl _) _⟩
set_option maxHeartbeats 8000000 in
set_option maxRecDepth 100000 in
theorem gh_E1 (f b v : Int) (d s t p : ByteArray) (A : Option Addr) (c n : Nat) (w : World) (hd : ¬ (d.size > 20)) (hs : ¬ (s.size > 20)) (hb : 0 ≤ b ∧ b ≤ 15) (ht : ¬ (t.size > 200)) (hp : ¬ (p.size > 1200)) (hf0 : ¬ (f = 0)) (hte : t.toList = ([] : List UInt8)) (hf4 : ¬ (f = 4)) (hl0 : n = 0) (hlg : ¬ (0 ≤ f ∧ f ≤ 3)) (hf5 : ¬ (f = 5)) : Calls Try.prog 30 #[.agg #[.int .i64 f, .int .i64 b, .int .i64 v, .string d, .string s, .string t, .string p, .slice A n c]] w fun e w' => e = .returned (.bool (false)) ∧ Below w.heap.size w w' := by
  have hda : decide (20 < (d.size : Int)) = false := by simp; omega
  have hdc : decide (((d.size : Nat) : Int) > 20) = false := by simp; omega
  have hdb : decide (20 < (d.size : Nat)) = false := by simp; omega
  have hdd : ¬ ((d.size : Nat) : Int) > 20 := by omega
  have hsa : decide (20 < (s.size : Int)) = false := by simp; omega
  have hsc : decide (((s.size : Nat) : Int) > 20) = false := by simp; omega
  have hsb : decide (20 < (s.size : Nat)) = false := by simp; omega
  have hsd : ¬ ((s.size : Nat) : Int) > 20 := by omega
  have hb15 := in_at b 0 15 true (by simp only [Bool.true_eq, Bool.and_eq_true, decide_eq_true_eq]; omega)
  have hta : decide (200 < (t.size : Int)) = false := by simp; omega
  have htc : decide (((t.size : Nat) : Int) > 200) = false := by simp; omega
  have htb : decide (200 < (t.size : Nat)) = false := by simp; omega
  have htd : ¬ ((t.size : Nat) : Int) > 200 := by omega
  have hpa : decide (1200 < (p.size : Int)) = false := by simp; omega
  have hpc : decide (((p.size : Nat) : Int) > 1200) = false := by simp; omega
  have hpb : decide (1200 < (p.size : Nat)) = false := by simp; omega
  have hpd : ¬ ((p.size : Nat) : Int) > 1200 := by omega
  have hf0b : (f == 0) = false := beq_eq_false_iff_ne.mpr hf0
  have hf0c : (f != 0) = true := bne_iff_ne.mpr hf0
  have hteb : (t.toList == ([] : List UInt8)) = true := beq_iff_eq.mpr hte
  have htec : (t.toList != ([] : List UInt8)) = false := bne_eq_false_iff_eq.mpr hte
  have hf4b : (f == 4) = false := beq_eq_false_iff_ne.mpr hf4
  have hf4c : (f != 4) = true := bne_iff_ne.mpr hf4
  have hl0a : decide (0 < (n : Int)) = false := by simp; omega
  have hl0c : decide (((n : Nat) : Int) > 0) = false := by simp; omega
  have hl0b : decide (0 < (n : Nat)) = false := by simp; omega
  have hl0d : ¬ ((n : Nat) : Int) > 0 := by omega
  have hlong := long_at f false (by symm; rw [Bool.and_eq_false_iff, decide_eq_false_iff_not, decide_eq_false_iff_not]; omega)
  have hf5b : (f == 5) = false := beq_eq_false_iff_ne.mpr hf5
  have hf5c : (f != 5) = true := bne_iff_ne.mpr hf5
  clear hd hs hb ht hp hl0 hlg
  go_enter Try.func30, Try.ntmps30
  go_wp2_with (first
    | (go_at_call 72; (with_reducible refine (hb15 _).mono ?_); rintro e w1 ⟨rfl, rfl⟩)
    | (go_at_call 73; refine (hlong _).mono ?_; rintro e w3 ⟨rfl, rfl⟩))
  go_ret
  exact ⟨rfl, (Below.refl _ _).alloc (Nat.le_refl _) _⟩
set_option maxHeartbeats 8000000 in
set_option maxRecDepth 100000 in
theorem gh_E2 (f b v : Int) (d s t p : ByteArray) (A : Option Addr) (c n : Nat) (w : World) (hd : ¬ (d.size > 20)) (hs : ¬ (s.size > 20)) (hb : 0 ≤ b ∧ b ≤ 15) (ht : ¬ (t.size > 200)) (hp : ¬ (p.size > 1200)) (hf0 : ¬ (f = 0)) (hte : t.toList = ([] : List UInt8)) (hf4 : ¬ (f = 4)) (hl0 : n = 0) (hlg : ¬ (0 ≤ f ∧ f ≤ 3)) (hf5 : f = 5) (hv0 : ¬ (v = 0)) : Calls Try.prog 30 #[.agg #[.int .i64 f, .int .i64 b, .int .i64 v, .string d, .string s, .string t, .string p, .slice A n c]] w fun e w' => e = .returned (.bool (false)) ∧ Below w.heap.size w w' := by
  subst hf5
  have hda : decide (20 < (d.size : Int)) = false := by simp; omega
  have hdc : decide (((d.size : Nat) : Int) > 20) = false := by simp; omega
  have hdb : decide (20 < (d.size : Nat)) = false := by simp; omega
  have hdd : ¬ ((d.size : Nat) : Int) > 20 := by omega
  have hsa : decide (20 < (s.size : Int)) = false := by simp; omega
  have hsc : decide (((s.size : Nat) : Int) > 20) = false := by simp; omega
  have hsb : decide (20 < (s.size : Nat)) = false := by simp; omega
  have hsd : ¬ ((s.size : Nat) : Int) > 20 := by omega
  have hb15 := in_at b 0 15 true (by simp only [Bool.true_eq, Bool.and_eq_true, decide_eq_true_eq]; omega)
  have hta : decide (200 < (t.size : Int)) = false := by simp; omega
  have htc : decide (((t.size : Nat) : Int) > 200) = false := by simp; omega
  have htb : decide (200 < (t.size : Nat)) = false := by simp; omega
  have htd : ¬ ((t.size : Nat) : Int) > 200 := by omega
  have hpa : decide (1200 < (p.size : Int)) = false := by simp; omega
  have hpc : decide (((p.size : Nat) : Int) > 1200) = false := by simp; omega
  have hpb : decide (1200 < (p.size : Nat)) = false := by simp; omega
  have hpd : ¬ ((p.size : Nat) : Int) > 1200 := by omega
  have hteb : (t.toList == ([] : List UInt8)) = true := beq_iff_eq.mpr hte
  have htec : (t.toList != ([] : List UInt8)) = false := bne_eq_false_iff_eq.mpr hte
  have hl0a : decide (0 < (n : Int)) = false := by simp; omega
  have hl0c : decide (((n : Nat) : Int) > 0) = false := by simp; omega
  have hl0b : decide (0 < (n : Nat)) = false := by simp; omega
  have hl0d : ¬ ((n : Nat) : Int) > 0 := by omega
  have hlong := long_at 5 false (by decide)
  have hv0b : (v == 0) = false := beq_eq_false_iff_ne.mpr hv0
  have hv0c : (v != 0) = true := bne_iff_ne.mpr hv0
  clear hd hs hb ht hp hl0 hlg
  go_enter Try.func30, Try.ntmps30
  go_wp2_with (first
    | (go_at_call 72; (with_reducible refine (hb15 _).mono ?_); rintro e w1 ⟨rfl, rfl⟩)
    | (go_at_call 73; refine (hlong _).mono ?_; rintro e w3 ⟨rfl, rfl⟩))
  go_ret
  exact ⟨rfl, (Below.refl _ _).alloc (Nat.le_refl _) _⟩
set_option maxHeartbeats 8000000 in
set_option maxRecDepth 100000 in
theorem gh_E3 (f b v : Int) (d s t p : ByteArray) (A : Option Addr) (c n : Nat) (w : World) (hd : ¬ (d.size > 20)) (hs : ¬ (s.size > 20)) (hb : 0 ≤ b ∧ b ≤ 15) (ht : ¬ (t.size > 200)) (hp : ¬ (p.size > 1200)) (hf0 : ¬ (f = 0)) (hte : t.toList = ([] : List UInt8)) (hf4 : ¬ (f = 4)) (hl0 : n = 0) (hlg : ¬ (0 ≤ f ∧ f ≤ 3)) (hf5 : f = 5) (hv0 : v = 0) (hse : ¬ (s.toList = ([] : List UInt8))) : Calls Try.prog 30 #[.agg #[.int .i64 f, .int .i64 b, .int .i64 v, .string d, .string s, .string t, .string p, .slice A n c]] w fun e w' => e = .returned (.bool (false)) ∧ Below w.heap.size w w' := by
  subst hf5
  have hda : decide (20 < (d.size : Int)) = false := by simp; omega
  have hdc : decide (((d.size : Nat) : Int) > 20) = false := by simp; omega
  have hdb : decide (20 < (d.size : Nat)) = false := by simp; omega
  have hdd : ¬ ((d.size : Nat) : Int) > 20 := by omega
  have hsa : decide (20 < (s.size : Int)) = false := by simp; omega
  have hsc : decide (((s.size : Nat) : Int) > 20) = false := by simp; omega
  have hsb : decide (20 < (s.size : Nat)) = false := by simp; omega
  have hsd : ¬ ((s.size : Nat) : Int) > 20 := by omega
  have hb15 := in_at b 0 15 true (by simp only [Bool.true_eq, Bool.and_eq_true, decide_eq_true_eq]; omega)
  have hta : decide (200 < (t.size : Int)) = false := by simp; omega
  have htc : decide (((t.size : Nat) : Int) > 200) = false := by simp; omega
  have htb : decide (200 < (t.size : Nat)) = false := by simp; omega
  have htd : ¬ ((t.size : Nat) : Int) > 200 := by omega
  have hpa : decide (1200 < (p.size : Int)) = false := by simp; omega
  have hpc : decide (((p.size : Nat) : Int) > 1200) = false := by simp; omega
  have hpb : decide (1200 < (p.size : Nat)) = false := by simp; omega
  have hpd : ¬ ((p.size : Nat) : Int) > 1200 := by omega
  have hteb : (t.toList == ([] : List UInt8)) = true := beq_iff_eq.mpr hte
  have htec : (t.toList != ([] : List UInt8)) = false := bne_eq_false_iff_eq.mpr hte
  have hl0a : decide (0 < (n : Int)) = false := by simp; omega
  have hl0c : decide (((n : Nat) : Int) > 0) = false := by simp; omega
  have hl0b : decide (0 < (n : Nat)) = false := by simp; omega
  have hl0d : ¬ ((n : Nat) : Int) > 0 := by omega
  have hlong := long_at 5 false (by decide)
  have hv0b : (v == 0) = true := beq_iff_eq.mpr hv0
  have hv0c : (v != 0) = false := bne_eq_false_iff_eq.mpr hv0
  have hseb : (s.toList == ([] : List UInt8)) = false := beq_eq_false_iff_ne.mpr hse
  have hsec : (s.toList != ([] : List UInt8)) = true := bne_iff_ne.mpr hse
  clear hd hs hb ht hp hl0 hlg
  go_enter Try.func30, Try.ntmps30
  go_wp2_with (first
    | (go_at_call 72; (with_reducible refine (hb15 _).mono ?_); rintro e w1 ⟨rfl, rfl⟩)
    | (go_at_call 73; refine (hlong _).mono ?_; rintro e w3 ⟨rfl, rfl⟩))
  go_ret
  exact ⟨rfl, (Below.refl _ _).alloc (Nat.le_refl _) _⟩
set_option maxHeartbeats 8000000 in
set_option maxRecDepth 100000 in
theorem gh_E4 (f b v : Int) (d s t p : ByteArray) (A : Option Addr) (c n : Nat) (w : World) (hd : ¬ (d.size > 20)) (hs : ¬ (s.size > 20)) (hb : 0 ≤ b ∧ b ≤ 15) (ht : ¬ (t.size > 200)) (hp : ¬ (p.size > 1200)) (hf0 : ¬ (f = 0)) (hte : t.toList = ([] : List UInt8)) (hf4 : ¬ (f = 4)) (hl0 : n = 0) (hlg : ¬ (0 ≤ f ∧ f ≤ 3)) (hf5 : f = 5) (hv0 : v = 0) (hse : s.toList = ([] : List UInt8)) : Calls Try.prog 30 #[.agg #[.int .i64 f, .int .i64 b, .int .i64 v, .string d, .string s, .string t, .string p, .slice A n c]] w fun e w' => e = .returned (.bool (true)) ∧ Below w.heap.size w w' := by
  subst hf5
  have hda : decide (20 < (d.size : Int)) = false := by simp; omega
  have hdc : decide (((d.size : Nat) : Int) > 20) = false := by simp; omega
  have hdb : decide (20 < (d.size : Nat)) = false := by simp; omega
  have hdd : ¬ ((d.size : Nat) : Int) > 20 := by omega
  have hsa : decide (20 < (s.size : Int)) = false := by simp; omega
  have hsc : decide (((s.size : Nat) : Int) > 20) = false := by simp; omega
  have hsb : decide (20 < (s.size : Nat)) = false := by simp; omega
  have hsd : ¬ ((s.size : Nat) : Int) > 20 := by omega
  have hb15 := in_at b 0 15 true (by simp only [Bool.true_eq, Bool.and_eq_true, decide_eq_true_eq]; omega)
  have hta : decide (200 < (t.size : Int)) = false := by simp; omega
  have htc : decide (((t.size : Nat) : Int) > 200) = false := by simp; omega
  have htb : decide (200 < (t.size : Nat)) = false := by simp; omega
  have htd : ¬ ((t.size : Nat) : Int) > 200 := by omega
  have hpa : decide (1200 < (p.size : Int)) = false := by simp; omega
  have hpc : decide (((p.size : Nat) : Int) > 1200) = false := by simp; omega
  have hpb : decide (1200 < (p.size : Nat)) = false := by simp; omega
  have hpd : ¬ ((p.size : Nat) : Int) > 1200 := by omega
  have hteb : (t.toList == ([] : List UInt8)) = true := beq_iff_eq.mpr hte
  have htec : (t.toList != ([] : List UInt8)) = false := bne_eq_false_iff_eq.mpr hte
  have hl0a : decide (0 < (n : Int)) = false := by simp; omega
  have hl0c : decide (((n : Nat) : Int) > 0) = false := by simp; omega
  have hl0b : decide (0 < (n : Nat)) = false := by simp; omega
  have hl0d : ¬ ((n : Nat) : Int) > 0 := by omega
  have hlong := long_at 5 false (by decide)
  have hv0b : (v == 0) = true := beq_iff_eq.mpr hv0
  have hv0c : (v != 0) = false := bne_eq_false_iff_eq.mpr hv0
  have hseb : (s.toList == ([] : List UInt8)) = true := beq_iff_eq.mpr hse
  have hsec : (s.toList != ([] : List UInt8)) = false := bne_eq_false_iff_eq.mpr hse
  clear hd hs hb ht hp hl0 hlg
  go_enter Try.func30, Try.ntmps30
  go_wp2_with (first
    | (go_at_call 72; (with_reducible refine (hb15 _).mono ?_); rintro e w1 ⟨rfl, rfl⟩)
    | (go_at_call 73; refine (hlong _).mono ?_; rintro e w3 ⟨rfl, rfl⟩))
  go_ret
  exact ⟨rfl, (Below.refl _ _).alloc (Nat.le_refl _) _⟩
end Go.Proofs.YtlohefjigggjiaaV.Aes
