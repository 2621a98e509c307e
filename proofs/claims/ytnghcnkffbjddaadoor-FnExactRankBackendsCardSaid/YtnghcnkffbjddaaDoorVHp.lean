/- The words of the hash's rounds and its first state, walked: impl's primes, behindPoint, RoundWords, firstState. Conditions: none (closed calls). -/
import Derived.Test.YtnghcnkffbjddaaDoorVFlt
import Derived.Lib.Hide
namespace Go.Proofs.YtnghcnkffbjddaaDoorV.Aes
open Go.RowKit Go.Proofs.YtnghcnkffbjddaaDoorV.PrintWords Go.Proofs.YtnghcnkffbjddaaDoorV.PrintLast Go.Proofs.YtnghcnkffbjddaaDoorV.PrintMore Go.Proofs.YtnghcnkffbjddaaDoorV.Mem
set_option linter.unusedVariables false
set_option linter.unusedSimpArgs false

/-- A number is divided by none of those from 2 below k. -/
def prB (n k : Nat) : Bool := (List.range k).all fun j => decide (j < 2) || n % j != 0
def sqOver (n : Nat) : Nat := ((List.range 20).find? fun k => decide (2 ≤ k) && decide (n < k * k)).getD 20
def isPr (n : Nat) : Bool := prB n (sqOver n)
/-- The primes below n, from 2 on. -/
def pl : Nat → List Nat
  | 0 => []
  | n + 1 => if n < 2 then [] else if isPr n then pl n ++ [n] else pl n
theorem pl_312 : pl 312 = PL := by decide +kernel
theorem pl_20 : pl 20 = PL.take 8 := by decide +kernel
theorem pl_short : (List.range 312).all (fun n => decide ((pl n).length < 64)) = true := by decide +kernel
theorem pl_short8 : (List.range 20).all (fun n => decide ((pl n).length < 8)) = true := by decide +kernel
theorem sq_all : (List.range 312).all (fun n => (List.range 20).all fun k => decide (k < 2) || decide (k * k ≤ n) || decide (2 < k ∧ n < (k - 1) * (k - 1)) || (prB n k == isPr n)) = true := by decide +kernel
theorem sq_end (n k : Nat) (hn : n < 312) (hk : 2 ≤ k) (h : n < k * k) (h2 : k = 2 ∨ (k - 1) * (k - 1) ≤ n) : prB n k = isPr n := by
  have hk20 : k < 20 := by
    rcases h2 with h2 | h2
    · omega
    · by_cases e : k < 20
      · exact e
      · have : 19 * 19 ≤ (k - 1) * (k - 1) := Nat.mul_le_mul (by omega) (by omega)
        omega
  have h3 := List.all_eq_true.mp (List.all_eq_true.mp sq_all n (List.mem_range.mpr hn)) k (List.mem_range.mpr hk20)
  simp only [Bool.or_eq_true, decide_eq_true_eq, beq_iff_eq] at h3
  rcases h3 with ((h3 | h3) | h3) | h3
  · omega
  · omega
  · rcases h2 with h2 | h2 <;> omega
  · exact h3
theorem prB_succ (n k : Nat) (hk : 2 ≤ k) : prB n (k + 1) = (prB n k && (n % k != 0)) := by
  unfold prB
  rw [List.range_succ, List.all_append]
  simp only [List.all_cons, List.all_nil, Bool.and_true]
  rw [show decide (k < 2) = false by simp; omega, Bool.false_or]
theorem pl_two (n : Nat) (h : 2 ≤ n) : pl (n + 1) = if isPr n then pl n ++ [n] else pl n := by
  rw [pl, if_neg (by omega)]
/-- Floats, as values. -/
def fls (l : List Nat) : List Value := l.map fun (n : Nat) => Value.float .f64 (flt (n : Int))
theorem info62 : (Tryd.prog.info? 211).map (fun i => (i.zero, i.size, i.bytes)) = some (some (.float .f64 0), 1, 8) := by kernel_rfl
theorem info46 : (Tryd.prog.info? 145).map (fun i => (i.zero, i.size, i.bytes)) = some (some (.int .u32 0), 1, 4) := by kernel_rfl
theorem cell_lit1 (wr : World) (u0 : Value) (t : TypeId) (j : Nat) (u : Value) (hu : [u0][j]? = some u) : (wr.alloc (.cells #[u0] t)).cell? ((⟨wr.heap.size, 0, none⟩ : Addr).add j) = some u := by
  cases j with
  | zero => simp at hu; subst hu; rw [Addr.add_mid]; simp only [World.cell?, heap_alloc_new]; rfl
  | succ j => simp at hu
theorem one_lit {u0 : Value} (h : u0.oneCell' = true) : ∀ u ∈ [u0], u.oneCell' = true := fun u hu => by simp at hu; subst hu; exact h
theorem le_alloc (w : World) (o : Obj) : w.heap.size ≤ (w.alloc o).heap.size := by simp
theorem own_slice {w : World} {base : Nat} {e : TypeId} {s : Nat} {v : Value} {n : Nat} {xs : List Value} (h : w.ownsRow base e s v n xs) : ∃ A cap, v = .slice A n cap := by
  rcases h.2 with ⟨h1, h2⟩ | ⟨g, cap, cur, h1, _⟩
  · exact ⟨none, 0, by rw [h1, h2]⟩
  · exact ⟨_, cap, h1⟩
/-- A row of the call's own has grown, behind a new block: what was there before the call is as it was. -/
theorem below_row {w wr w1 : World} {o : Obj} {e : TypeId} {s n : Nat} {v : Value} {xs : List Value} (h : Below w.heap.size w wr) (ho : wr.ownsRow w.heap.size e s v n xs) (hg : (wr.alloc o).grownBy w1 v.ownBlock) : Below w.heap.size w w1 := by
  have hb := h.alloc h.size o
  refine ⟨hg.os.trans hb.os, hg.tape.trans hb.tape, hg.output.trans hb.output, Nat.le_trans hb.size hg.size, fun k hk => (hg.block k (Nat.lt_of_lt_of_le hk hb.size) ?_).trans (hb.block k hk)⟩
  intro e
  rcases ho.2 with ⟨h1, _⟩ | ⟨g, cap, cur, h1, h2, _⟩
  · rw [h1] at e; simp [Value.ownBlock] at e
  · rw [h1] at e; simp [Value.ownBlock] at e; omega
theorem neq_cast (n k : Nat) : ((n : Int) % (k : Int) != 0) = (n % k != 0) := by
  rw [show (n : Int) % (k : Int) = ((n % k : Nat) : Int) from rfl]
  cases h : n % k <;> rfl
set_option maxHeartbeats 4000000 in
set_option maxRecDepth 100000 in
theorem primes_walk (m lim : Nat) (hm : 0 < m ∧ m ≤ 64) (hlim : 2 ≤ lim ∧ lim ≤ 312) (hP : (pl lim).length = m) (hS : ∀ n, n < lim → (pl n).length < m) (w : World) :
    Calls Tryd.prog 197 #[.int .i64 (m : Int)] w fun e w' => ∃ v, e = .returned v ∧ w'.ownsRow w.heap.size 211 1 v m (fls (pl lim)) ∧ Below w.heap.size w w' := by
  obtain ⟨i0, hi, hz0, hz1, hz2⟩ := info_parts info62
  have Hm := Lib.hid hm
  have HP := Lib.hid hP
  have HS := Lib.hid hS
  clear hm hP hS
  go_enter Tryd.func197, Tryd.ntmps197
  go_wp2
  go_loopw [3, 4] (fun u y wr => ∃ (n : Nat) (A : Option Addr) (cap : Nat), 2 ≤ n ∧ n ≤ lim ∧ y = .int .i64 (n : Int) ∧ u = .slice A (pl n).length cap ∧ wr.ownsRow w.heap.size 211 1 (.slice A (pl n).length cap) (pl n).length (fls (pl n)) ∧ Below w.heap.size w wr)
    (fun _ y _ => 312 - (intOf y).toNat)
  case atStart => exact ⟨2, _, _, by omega, by omega, rfl, rfl, World.ownsRow_lit w #[] 0 (Nat.le_refl _) (by decide) rfl, (Below.refl _ _).alloc (Nat.le_refl _) _⟩
  case round =>
    obtain ⟨n, A, cap, hn2, hnl, rfl, rfl, hown, hB⟩ := hrel
    have hnl2 : (n : Int) ≤ 312 := by omega
    by_cases hlt : (pl n).length < m
    · have hltn : n < lim := by
        have := HP.out
        by_cases e : n < lim
        · exact e
        · have : n = lim := by omega
          subst this; omega
      have hlti : ((pl n).length : Int) < (m : Int) := by omega
      go_wp2
      go_loop [5, 6] (fun p y => ∃ k : Nat, 2 ≤ k ∧ k ≤ 20 ∧ y = .int .i64 (k : Int) ∧ p = .bool (prB n k) ∧ Hid (k = 2 ∨ (k - 1) * (k - 1) ≤ n)) (fun _ y => 30 - (intOf y).toNat)
      case atStart => exact ⟨2, by omega, by omega, rfl, rfl, Lib.hid (.inl rfl)⟩
      case round =>
        obtain ⟨k, hk2, hk20, rfl, rfl, Hk⟩ := hrel
        have hkk : (k : Int) * (k : Int) ≤ 400 ∧ 0 ≤ (k : Int) * (k : Int) := by
          have : k * k ≤ 20 * 20 := Nat.mul_le_mul hk20 hk20
          have e : (k : Int) * (k : Int) = ((k * k : Nat) : Int) := by simp
          omega
        by_cases hkn : k * k ≤ n
        · have hkni : (k : Int) * (k : Int) ≤ (n : Int) := by
            have e : (k : Int) * (k : Int) = ((k * k : Nat) : Int) := by simp
            omega
          go_wp2
          all_goals
            have hk17 : k ≤ 17 := by
              by_cases e : k ≤ 17
              · exact e
              · have : 18 * 18 ≤ k * k := Nat.mul_le_mul (by omega) (by omega)
                omega
            refine ⟨⟨k + 1, by omega, by omega, by go_num, ?_, Lib.hid (.inr (by simpa using hkn))⟩, by simp [intOf]; omega⟩
            rw [prB_succ n k hk2]
            first | (rw [‹prB n k = true›, Bool.true_and, neq_cast]) | (rw [Bool.eq_false_iff.mpr ‹¬ prB n k = true›, Bool.false_and])
        · have hkni : ¬ (k : Int) * (k : Int) ≤ (n : Int) := by
            have e : (k : Int) * (k : Int) = ((k * k : Nat) : Int) := by simp
            omega
          have hend := sq_end n k (by omega) hk2 (by omega) Hk.out
          have hpl := pl_two n hn2
          by_cases hp : isPr n = true
          · rw [hp] at hend
            rw [if_pos hp] at hpl
            have Hpl := Lib.hid hpl
            clear hpl
            rw [hend]
            have hc3 : (pl n).length + 1 ≤ maxLen := by unfold maxLen; have := Hm.out; omega
            have hc4 : ((pl n).length + 1) * 8 ≤ 140737488355328 := by have := Hm.out; omega
            go_wp2_with (at_builtin; refine wpList_append_own _ rfl _ _ 209 rfl w.heap.size 211 i0 (.float .f64 0) 1 8 Tryd.underlying209 hi hz0 hz1 hz2 rfl (by decide) _ _ _ rfl (hown.alloc _) ⟨wr.heap.size, 0, none⟩ 1 1 [.float .f64 (flt (n : Int))] rfl rfl (cell_lit1 wr _ _) (one_lit rfl) hc3 hc4 (Nat.le_trans hB.size (le_alloc wr _)) ?_)
            intro v' w1 hown' hgrow _
            have hfl : fls (pl n) ++ [Value.float .f64 (flt (n : Int))] = fls (pl (n + 1)) := by rw [Hpl.out]; simp [fls]
            have hpln : (pl (n + 1)).length = (pl n).length + 1 := by rw [Hpl.out]; simp
            rw [hfl, ← hpln] at hown'
            obtain ⟨A', cap', rfl⟩ := own_slice hown'
            have hB1 := below_row hB hown hgrow
            clear hown hgrow hB hend Hpl hfl hpln
            go_wp2
            exact ⟨⟨n + 1, A', cap', by omega, by omega, by go_num, rfl, hown', hB1⟩, by simp [intOf]; omega⟩
          · rw [Bool.eq_false_iff.mpr hp] at hend
            rw [if_neg hp] at hpl
            rw [hend]
            have Hpl := Lib.hid hpl
            clear hpl
            go_wp2
            exact ⟨⟨n + 1, A, cap, by omega, by omega, by go_num, by rw [Hpl.out], by rw [Hpl.out]; exact hown, hB⟩, by simp [intOf]; omega⟩
    · have : n = lim := by
        by_cases e : n < lim
        · have := HS.out n e; omega
        · omega
      subst this
      have h2 := HP.out
      have hlti : ¬ ((pl n).length : Int) < (m : Int) := by omega
      go_wp2
      go_ret
      exact ⟨_, rfl, by rw [← h2]; exact hown, hB⟩
end Go.Proofs.YtnghcnkffbjddaaDoorV.Aes
