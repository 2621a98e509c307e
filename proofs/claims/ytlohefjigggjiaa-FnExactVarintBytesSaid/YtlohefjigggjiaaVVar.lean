/- The program's varint: the first bits looked up in a map made on the spot. Conditions: 0 ≤ n. -/
import Derived.Test.YtlohefjigggjiaaPImplVx1
import Derived.Maps.OwnOps
namespace Go.Proofs.YtlohefjigggjiaaV.Aes
open Go.RowKit Go.Proofs.YtlohefjigggjiaaV.PrintWords Go.Proofs.YtlohefjigggjiaaV.PrintLast Go.Proofs.YtlohefjigggjiaaV.PrintMore Go.Proofs.YtlohefjigggjiaaV.Mem
set_option linter.unusedVariables false
set_option linter.unusedSimpArgs false

open Go.Proofs.Ytlohefjigggjiaa.PImplV Go.Maps
/-- A number's last bytes, so many, the highest first. -/
def be : Nat → Int → List Int
  | 0, _ => []
  | m + 1, n => be m (n / 256) ++ [n % 256]
theorem be_length : ∀ (m : Nat) (n : Int), (be m n).length = m
  | 0, _ => rfl
  | m + 1, n => by simp [be, be_length m]
theorem be_head : ∀ (m : Nat) (n : Int), be (m + 1) n = (n / 256 ^ m % 256) :: be m n
  | 0, n => by simp [be]
  | m + 1, n => by
    have ih := be_head m (n / 256)
    show be (m + 1) (n / 256) ++ [n % 256] = _ :: (be m (n / 256) ++ [n % 256])
    rw [ih, Int.ediv_ediv_of_nonneg (by decide), ← Int.pow_succ']
    rfl
theorem wrap_u64_in (n : Int) (h0 : 0 ≤ n) (h1 : n < 18446744073709551616) : IntKind.u64.wrap n = n := by
  simp [IntKind.wrap, IntKind.bits, IntKind.signed]; omega

theorem bigEndian_loop : ∀ (j k : Nat) (x0 : Int) (tail : List Int), j < k → j ≤ 1000000 → impl_bigEndian.l0 k x0 (List.replicate j 0 ++ tail) ((j : Int) - 1) = some (strOfNums (be j x0 ++ tail))
  | 0, k, x0, tail, hk, _ => by
    obtain ⟨k, rfl⟩ : ∃ m, k = m + 1 := ⟨k - 1, by omega⟩
    simp only [impl_bigEndian.l0]
    rw [if_neg (by decide)]
    simp [be]
  | j + 1, k, x0, tail, hk, hj => by
    obtain ⟨k, rfl⟩ : ∃ m, k = m + 1 := ⟨k - 1, by omega⟩
    simp only [impl_bigEndian.l0]
    have e : ((j + 1 : Nat) : Int) - 1 = (j : Int) := by omega
    rw [e, if_pos (by omega), if_pos (by omega), if_pos (by simp; omega)]
    have e2 : wrap64 ((j : Int) - 1) = (j : Int) - 1 := by unfold wrap64; omega
    have e3 : (List.replicate (j + 1) (0 : Int) ++ tail).set ((j : Int)).toNat (x0 % 256) = List.replicate j 0 ++ ((x0 % 256) :: tail) := by
      rw [Int.toNat_natCast, List.replicate_succ', List.append_assoc, List.set_append_right _ _ (by simp)]
      simp
    rw [e2, e3, bigEndian_loop j k (x0 / 256) _ (by omega) (by omega)]
    simp [be]

theorem bigEndian_tells (k j : Nat) (x0 : Int) (hk : j < k) (hj : j ≤ 1000000) : impl_bigEndian.f k x0 (j : Int) = some (strOfNums (be j x0)) := by
  unfold impl_bigEndian.f
  have e2 : wrap64 ((j : Int) - 1) = (j : Int) - 1 := by unfold wrap64; omega
  rw [if_pos (by omega), if_pos (by omega), e2, Int.toNat_natCast]
  have := bigEndian_loop j k x0 [] hk hj
  simpa using this

/-- 'm[k] = v' of a map literal, at the operation. -/
theorem insert_step {H : Type} {P : Program} (w : World) {ops : Array Oper} {rest : List Oper} {o : Oper} {a : Act} {Q : Exit → Act → World → Prop}
    (hg : o.guard = none) (m x v : Operand) (t : TypeId) (hop : o.op = Op.insert t m x v)
    (k e : TypeId) (K : Keyed P k) (ht : P.underlying t = some (.map k e)) (R : Value → Option (DataW H × List MemPlace)) (b n : Nat) (D : DataW H)
    (hm : a.eval m = .map (some b)) (hown : w.ownsMap P k R b n D) (hn : n < maxLen) (key val : Value) (kl : Lit) (hx : a.eval x = key) (hv : a.eval v = val) (hkey : keyOf P k key = some kl)
    (d : DataW H) (ps : List MemPlace) (hval : R val = some (d, ps))
    (hK : ∀ w', w'.ownsMap P k R b (n + 1) (D.put kl d) → w.grownBy w' (some b) → wpList P ops Q rest (a.put o.dst undef) w') :
    wpList P ops Q (o :: rest) a w := by
  refine wpList_plain hg fun K' hK' => ?_
  obtain ⟨w', hrun, r1, r2⟩ := hown.update K ht hn hkey hval
  unfold Oper.wp
  simp [execOp, hop, hm, hx, hv, hrun, Result.andThen]
  exact hK' _ _ (hK w' r1 r2)
theorem lt_maxLen (n : Nat) (h : n ≤ 100) : n < maxLen := by unfold maxLen; omega
theorem wf_i (n : Int) (h0 : 0 ≤ n) (h1 : n ≤ 100) : (Lit.int .i64 n).wf = true := WalkArith.wf_i64 (by omega)
theorem wf_u (n : Nat) (h1 : n ≤ 100) : (Lit.int .u64 (n : Int)).wf = true := by simp [Lit.wf, IntKind.min, IntKind.max, IntKind.signed, IntKind.bits]; omega
theorem keyI : Keyed Try.prog 3 := int_keyed Try.underlying3
theorem zeroU (w : World) : (zeroValue 78).run Try.prog w = .ok (.int .u64 0) w := by kernel_rfl
/-- The map's datum behind its four entries. -/
def firsts : DataW Unit := ((((DataW.map []).put (.int .i64 1) (.lit (.int .u64 0))).put (.int .i64 2) (.lit (.int .u64 1))).put (.int .i64 4) (.lit (.int .u64 2))).put (.int .i64 8) (.lit (.int .u64 3))
theorem firsts1 : firsts.atKey (.int .i64 1) (.lit (.int .u64 0)) = .lit (.int .u64 0) := by rfl
theorem firsts2 : firsts.atKey (.int .i64 2) (.lit (.int .u64 0)) = .lit (.int .u64 1) := by rfl
theorem firsts4 : firsts.atKey (.int .i64 4) (.lit (.int .u64 0)) = .lit (.int .u64 2) := by rfl
theorem firsts8 : firsts.atKey (.int .i64 8) (.lit (.int .u64 0)) = .lit (.int .u64 3) := by rfl
set_option maxRecDepth 100000 in
theorem get1 : keyOf Try.prog 3 (.int .i64 1) = some (.int .i64 1) := keyOf_int_mk Try.underlying3 (wf_i 1 (by decide) (by decide))
theorem el0 : plainElem (H := Unit) Try.prog 78 (.int .u64 0) = some (.lit (.int .u64 0), []) := plainElem_int Try.underlying78 (wf_u 0 (by decide))
set_option maxRecDepth 100000 in
theorem get2 : keyOf Try.prog 3 (.int .i64 2) = some (.int .i64 2) := keyOf_int_mk Try.underlying3 (wf_i 2 (by decide) (by decide))
theorem el1 : plainElem (H := Unit) Try.prog 78 (.int .u64 1) = some (.lit (.int .u64 1), []) := plainElem_int Try.underlying78 (wf_u 1 (by decide))
set_option maxRecDepth 100000 in
theorem get4 : keyOf Try.prog 3 (.int .i64 4) = some (.int .i64 4) := keyOf_int_mk Try.underlying3 (wf_i 4 (by decide) (by decide))
theorem el2 : plainElem (H := Unit) Try.prog 78 (.int .u64 2) = some (.lit (.int .u64 2), []) := plainElem_int Try.underlying78 (wf_u 2 (by decide))
set_option maxRecDepth 100000 in
theorem get8 : keyOf Try.prog 3 (.int .i64 8) = some (.int .i64 8) := keyOf_int_mk Try.underlying3 (wf_i 8 (by decide) (by decide))
theorem el3 : plainElem (H := Unit) Try.prog 78 (.int .u64 3) = some (.lit (.int .u64 3), []) := plainElem_int Try.underlying78 (wf_u 3 (by decide))
theorem lit_inj {a b : Int} (h : (DataW.lit (Lit.int .u64 a) : DataW Unit) = .lit (.int .u64 b)) : b = a := by injection h with h; injection h with _ h; exact h.symm
set_option maxHeartbeats 4000000 in
set_option maxRecDepth 100000 in
theorem varint_at1 (n : Int) (hs : impl_varintSize.f n = some 1) (w : World) : Calls Try.prog 55 #[.int .i64 n] w fun e w' => e = .returned (.string (strOfNums (be 1 (bits .or .u64 (IntKind.u64.wrap n) 0)))) ∧ Below w.heap.size w w' := by
  have hmm := @run_makeMap Try.prog
  have hsz := fun w => impl_varintSize.calls n 1 w hs
  have hbe := fun (x : Int) (w : World) => impl_bigEndian.calls 100 x 1 _ w (bigEndian_tells 100 1 x (by decide) (by decide))
  have hl : shl .u64 0 6 = 0 := by decide +kernel
  go_enter Try.func55, Try.ntmps55
  go_wp2_with (first
    | (go_at_call 98; refine (hsz _).mono ?_; rintro e w1 ⟨rfl, ⟨nd, rfl⟩⟩)
    | (go_at_call 99; refine (hbe _ _).mono ?_; rintro e w9 ⟨rfl, hB9⟩)
    | (refine insert_step (H := Unit) _ rfl _ _ _ 106 rfl 3 78 keyI Try.underlying106 (plainElem Try.prog 78) _ 0 (.map []) rfl (World.ownsMap_made _ _ _ _) (lt_maxLen 0 (by decide)) _ _ (.int .i64 1) rfl rfl get1 (.lit (.int .u64 0)) [] el0 ?_; intro w2 ho2 hg2)
    | (refine insert_step (H := Unit) _ rfl _ _ _ 106 rfl 3 78 keyI Try.underlying106 (plainElem Try.prog 78) _ 1 _ rfl ho2 (lt_maxLen 1 (by decide)) _ _ (.int .i64 2) rfl rfl get2 (.lit (.int .u64 1)) [] el1 ?_; intro w3 ho3 hg3)
    | (refine insert_step (H := Unit) _ rfl _ _ _ 106 rfl 3 78 keyI Try.underlying106 (plainElem Try.prog 78) _ 2 _ rfl ho3 (lt_maxLen 2 (by decide)) _ _ (.int .i64 4) rfl rfl get4 (.lit (.int .u64 2)) [] el2 ?_; intro w4 ho4 hg4)
    | (refine insert_step (H := Unit) _ rfl _ _ _ 106 rfl 3 78 keyI Try.underlying106 (plainElem Try.prog 78) _ 3 _ rfl ho4 (lt_maxLen 3 (by decide)) _ _ (.int .i64 8) rfl rfl get8 (.lit (.int .u64 3)) [] el3 ?_; intro w5 ho5 hg5)
    | (refine wpList_lookup_own_int (H := Unit) _ rfl _ _ 106 rfl 3 78 .u64 keyI Try.underlying106 Try.underlying78 (zeroU _) _ 4 _ rfl ho5 _ (.int .i64 1) rfl get1 ?_; intro c hat hwc; obtain rfl := lit_inj (firsts1.symm.trans hat)))
  have h1 : Below w.heap.size w ((w.drewN nd).alloc (Obj.map #[] 0)) := (pw_below_drewN (Below.refl _ _) nd).alloc (Nat.le_refl _) _
  have h2 := h1.grown hg2 h1.size (fun j hj => by cases hj; exact Nat.le_refl _)
  have h3 := h2.grown hg3 h2.size (fun j hj => by cases hj; exact Nat.le_refl _)
  have h4 := h3.grown hg4 h3.size (fun j hj => by cases hj; exact Nat.le_refl _)
  have h5 := h4.grown hg5 h4.size (fun j hj => by cases hj; exact Nat.le_refl _)
  go_ret
  exact ⟨rfl, h5.trans (hB9.mono h5.size)⟩
set_option maxHeartbeats 4000000 in
set_option maxRecDepth 100000 in
theorem varint_at2 (n : Int) (hs : impl_varintSize.f n = some 2) (w : World) : Calls Try.prog 55 #[.int .i64 n] w fun e w' => e = .returned (.string (strOfNums (be 2 (bits .or .u64 (IntKind.u64.wrap n) 16384)))) ∧ Below w.heap.size w w' := by
  have hmm := @run_makeMap Try.prog
  have hsz := fun w => impl_varintSize.calls n 2 w hs
  have hbe := fun (x : Int) (w : World) => impl_bigEndian.calls 100 x 2 _ w (bigEndian_tells 100 2 x (by decide) (by decide))
  have hl : shl .u64 1 14 = 16384 := by decide +kernel
  go_enter Try.func55, Try.ntmps55
  go_wp2_with (first
    | (go_at_call 98; refine (hsz _).mono ?_; rintro e w1 ⟨rfl, ⟨nd, rfl⟩⟩)
    | (go_at_call 99; refine (hbe _ _).mono ?_; rintro e w9 ⟨rfl, hB9⟩)
    | (refine insert_step (H := Unit) _ rfl _ _ _ 106 rfl 3 78 keyI Try.underlying106 (plainElem Try.prog 78) _ 0 (.map []) rfl (World.ownsMap_made _ _ _ _) (lt_maxLen 0 (by decide)) _ _ (.int .i64 1) rfl rfl get1 (.lit (.int .u64 0)) [] el0 ?_; intro w2 ho2 hg2)
    | (refine insert_step (H := Unit) _ rfl _ _ _ 106 rfl 3 78 keyI Try.underlying106 (plainElem Try.prog 78) _ 1 _ rfl ho2 (lt_maxLen 1 (by decide)) _ _ (.int .i64 2) rfl rfl get2 (.lit (.int .u64 1)) [] el1 ?_; intro w3 ho3 hg3)
    | (refine insert_step (H := Unit) _ rfl _ _ _ 106 rfl 3 78 keyI Try.underlying106 (plainElem Try.prog 78) _ 2 _ rfl ho3 (lt_maxLen 2 (by decide)) _ _ (.int .i64 4) rfl rfl get4 (.lit (.int .u64 2)) [] el2 ?_; intro w4 ho4 hg4)
    | (refine insert_step (H := Unit) _ rfl _ _ _ 106 rfl 3 78 keyI Try.underlying106 (plainElem Try.prog 78) _ 3 _ rfl ho4 (lt_maxLen 3 (by decide)) _ _ (.int .i64 8) rfl rfl get8 (.lit (.int .u64 3)) [] el3 ?_; intro w5 ho5 hg5)
    | (refine wpList_lookup_own_int (H := Unit) _ rfl _ _ 106 rfl 3 78 .u64 keyI Try.underlying106 Try.underlying78 (zeroU _) _ 4 _ rfl ho5 _ (.int .i64 2) rfl get2 ?_; intro c hat hwc; obtain rfl := lit_inj (firsts2.symm.trans hat)))
  have h1 : Below w.heap.size w ((w.drewN nd).alloc (Obj.map #[] 0)) := (pw_below_drewN (Below.refl _ _) nd).alloc (Nat.le_refl _) _
  have h2 := h1.grown hg2 h1.size (fun j hj => by cases hj; exact Nat.le_refl _)
  have h3 := h2.grown hg3 h2.size (fun j hj => by cases hj; exact Nat.le_refl _)
  have h4 := h3.grown hg4 h3.size (fun j hj => by cases hj; exact Nat.le_refl _)
  have h5 := h4.grown hg5 h4.size (fun j hj => by cases hj; exact Nat.le_refl _)
  go_ret
  exact ⟨rfl, h5.trans (hB9.mono h5.size)⟩
set_option maxHeartbeats 4000000 in
set_option maxRecDepth 100000 in
theorem varint_at4 (n : Int) (hs : impl_varintSize.f n = some 4) (w : World) : Calls Try.prog 55 #[.int .i64 n] w fun e w' => e = .returned (.string (strOfNums (be 4 (bits .or .u64 (IntKind.u64.wrap n) 2147483648)))) ∧ Below w.heap.size w w' := by
  have hmm := @run_makeMap Try.prog
  have hsz := fun w => impl_varintSize.calls n 4 w hs
  have hbe := fun (x : Int) (w : World) => impl_bigEndian.calls 100 x 4 _ w (bigEndian_tells 100 4 x (by decide) (by decide))
  have hl : shl .u64 2 30 = 2147483648 := by decide +kernel
  go_enter Try.func55, Try.ntmps55
  go_wp2_with (first
    | (go_at_call 98; refine (hsz _).mono ?_; rintro e w1 ⟨rfl, ⟨nd, rfl⟩⟩)
    | (go_at_call 99; refine (hbe _ _).mono ?_; rintro e w9 ⟨rfl, hB9⟩)
    | (refine insert_step (H := Unit) _ rfl _ _ _ 106 rfl 3 78 keyI Try.underlying106 (plainElem Try.prog 78) _ 0 (.map []) rfl (World.ownsMap_made _ _ _ _) (lt_maxLen 0 (by decide)) _ _ (.int .i64 1) rfl rfl get1 (.lit (.int .u64 0)) [] el0 ?_; intro w2 ho2 hg2)
    | (refine insert_step (H := Unit) _ rfl _ _ _ 106 rfl 3 78 keyI Try.underlying106 (plainElem Try.prog 78) _ 1 _ rfl ho2 (lt_maxLen 1 (by decide)) _ _ (.int .i64 2) rfl rfl get2 (.lit (.int .u64 1)) [] el1 ?_; intro w3 ho3 hg3)
    | (refine insert_step (H := Unit) _ rfl _ _ _ 106 rfl 3 78 keyI Try.underlying106 (plainElem Try.prog 78) _ 2 _ rfl ho3 (lt_maxLen 2 (by decide)) _ _ (.int .i64 4) rfl rfl get4 (.lit (.int .u64 2)) [] el2 ?_; intro w4 ho4 hg4)
    | (refine insert_step (H := Unit) _ rfl _ _ _ 106 rfl 3 78 keyI Try.underlying106 (plainElem Try.prog 78) _ 3 _ rfl ho4 (lt_maxLen 3 (by decide)) _ _ (.int .i64 8) rfl rfl get8 (.lit (.int .u64 3)) [] el3 ?_; intro w5 ho5 hg5)
    | (refine wpList_lookup_own_int (H := Unit) _ rfl _ _ 106 rfl 3 78 .u64 keyI Try.underlying106 Try.underlying78 (zeroU _) _ 4 _ rfl ho5 _ (.int .i64 4) rfl get4 ?_; intro c hat hwc; obtain rfl := lit_inj (firsts4.symm.trans hat)))
  have h1 : Below w.heap.size w ((w.drewN nd).alloc (Obj.map #[] 0)) := (pw_below_drewN (Below.refl _ _) nd).alloc (Nat.le_refl _) _
  have h2 := h1.grown hg2 h1.size (fun j hj => by cases hj; exact Nat.le_refl _)
  have h3 := h2.grown hg3 h2.size (fun j hj => by cases hj; exact Nat.le_refl _)
  have h4 := h3.grown hg4 h3.size (fun j hj => by cases hj; exact Nat.le_refl _)
  have h5 := h4.grown hg5 h4.size (fun j hj => by cases hj; exact Nat.le_refl _)
  go_ret
  exact ⟨rfl, h5.trans (hB9.mono h5.size)⟩
set_option maxHeartbeats 4000000 in
set_option maxRecDepth 100000 in
theorem varint_at8 (n : Int) (hs : impl_varintSize.f n = some 8) (w : World) : Calls Try.prog 55 #[.int .i64 n] w fun e w' => e = .returned (.string (strOfNums (be 8 (bits .or .u64 (IntKind.u64.wrap n) 13835058055282163712)))) ∧ Below w.heap.size w w' := by
  have hmm := @run_makeMap Try.prog
  have hsz := fun w => impl_varintSize.calls n 8 w hs
  have hbe := fun (x : Int) (w : World) => impl_bigEndian.calls 100 x 8 _ w (bigEndian_tells 100 8 x (by decide) (by decide))
  have hl : shl .u64 3 62 = 13835058055282163712 := by decide +kernel
  go_enter Try.func55, Try.ntmps55
  go_wp2_with (first
    | (go_at_call 98; refine (hsz _).mono ?_; rintro e w1 ⟨rfl, ⟨nd, rfl⟩⟩)
    | (go_at_call 99; refine (hbe _ _).mono ?_; rintro e w9 ⟨rfl, hB9⟩)
    | (refine insert_step (H := Unit) _ rfl _ _ _ 106 rfl 3 78 keyI Try.underlying106 (plainElem Try.prog 78) _ 0 (.map []) rfl (World.ownsMap_made _ _ _ _) (lt_maxLen 0 (by decide)) _ _ (.int .i64 1) rfl rfl get1 (.lit (.int .u64 0)) [] el0 ?_; intro w2 ho2 hg2)
    | (refine insert_step (H := Unit) _ rfl _ _ _ 106 rfl 3 78 keyI Try.underlying106 (plainElem Try.prog 78) _ 1 _ rfl ho2 (lt_maxLen 1 (by decide)) _ _ (.int .i64 2) rfl rfl get2 (.lit (.int .u64 1)) [] el1 ?_; intro w3 ho3 hg3)
    | (refine insert_step (H := Unit) _ rfl _ _ _ 106 rfl 3 78 keyI Try.underlying106 (plainElem Try.prog 78) _ 2 _ rfl ho3 (lt_maxLen 2 (by decide)) _ _ (.int .i64 4) rfl rfl get4 (.lit (.int .u64 2)) [] el2 ?_; intro w4 ho4 hg4)
    | (refine insert_step (H := Unit) _ rfl _ _ _ 106 rfl 3 78 keyI Try.underlying106 (plainElem Try.prog 78) _ 3 _ rfl ho4 (lt_maxLen 3 (by decide)) _ _ (.int .i64 8) rfl rfl get8 (.lit (.int .u64 3)) [] el3 ?_; intro w5 ho5 hg5)
    | (refine wpList_lookup_own_int (H := Unit) _ rfl _ _ 106 rfl 3 78 .u64 keyI Try.underlying106 Try.underlying78 (zeroU _) _ 4 _ rfl ho5 _ (.int .i64 8) rfl get8 ?_; intro c hat hwc; obtain rfl := lit_inj (firsts8.symm.trans hat)))
  have h1 : Below w.heap.size w ((w.drewN nd).alloc (Obj.map #[] 0)) := (pw_below_drewN (Below.refl _ _) nd).alloc (Nat.le_refl _) _
  have h2 := h1.grown hg2 h1.size (fun j hj => by cases hj; exact Nat.le_refl _)
  have h3 := h2.grown hg3 h2.size (fun j hj => by cases hj; exact Nat.le_refl _)
  have h4 := h3.grown hg4 h3.size (fun j hj => by cases hj; exact Nat.le_refl _)
  have h5 := h4.grown hg5 h4.size (fun j hj => by cases hj; exact Nat.le_refl _)
  go_ret
  exact ⟨rfl, h5.trans (hB9.mono h5.size)⟩
/-- What the program's varint answers. -/
def varS (n : Int) : ByteArray := if n < 64 then strOfNums (be 1 (bits .or .u64 (IntKind.u64.wrap n) 0)) else if n < 16384 then strOfNums (be 2 (bits .or .u64 (IntKind.u64.wrap n) 16384)) else if n < 1073741824 then strOfNums (be 4 (bits .or .u64 (IntKind.u64.wrap n) 2147483648)) else strOfNums (be 8 (bits .or .u64 (IntKind.u64.wrap n) 13835058055282163712))
theorem varint_walk (n : Int) (w : World) : Calls Try.prog 55 #[.int .i64 n] w fun e w' => e = .returned (.string (varS n)) ∧ Below w.heap.size w w' := by
  unfold varS
  by_cases h1 : n < 64
  · rw [if_pos h1]; exact varint_at1 n (by unfold impl_varintSize.f; rw [if_pos h1]) w
  rw [if_neg h1]
  by_cases h2 : n < 16384
  · rw [if_pos h2]; exact varint_at2 n (by unfold impl_varintSize.f; rw [if_neg h1, if_pos h2]) w
  rw [if_neg h2]
  by_cases h3 : n < 1073741824
  · rw [if_pos h3]; exact varint_at4 n (by unfold impl_varintSize.f; rw [if_neg h1, if_neg h2, if_pos h3]) w
  rw [if_neg h3]; exact varint_at8 n (by unfold impl_varintSize.f; rw [if_neg h1, if_neg h2, if_neg h3]) w
end Go.Proofs.YtlohefjigggjiaaV.Aes
