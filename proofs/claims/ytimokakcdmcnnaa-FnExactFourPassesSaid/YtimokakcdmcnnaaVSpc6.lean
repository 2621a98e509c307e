/- Shared lemmas and walks of the AES laws of this seat. -/
import Derived.Test.YtimokakcdmcnnaaVSpc4
import Derived.Test.YtimokakcdmcnnaaVAes13
import Derived.Test.YtimokakcdmcnnaaPSpecAx6
namespace Go.Proofs.YtimokakcdmcnnaaV.Aes
open Go.RowKit Go.Proofs.YtimokakcdmcnnaaV.PrintWords Go.Proofs.YtimokakcdmcnnaaV.PrintLast Go.Proofs.YtimokakcdmcnnaaV.PrintMore Go.Proofs.YtimokakcdmcnnaaV.Mem
set_option linter.unusedVariables false
set_option linter.unusedSimpArgs false

open Go.Proofs.Ytimokakcdmcnnaa.PSpecA
theorem fixed_shift (x : Int) (j : Nat) (hj : j ≤ 8) : shr .i64 x (IntKind.u64.wrap (wrap64 (8 * (j : Int)))) = x / 256 ^ j := by
  have e : wrap64 (8 * (j : Int)) = 8 * (j : Int) := by unfold wrap64; omega
  rw [e, wrap_u64_in _ (by omega) (by omega)]
  unfold shr
  have e2 : min (8 * (j : Int)).toNat IntKind.i64.bits = 8 * j := by
    have : (8 * (j : Int)).toNat = 8 * j := by omega
    rw [this]; show min (8 * j) 64 = _; omega
  rw [e2, Int.pow_mul]; rfl

theorem fixed_loop : ∀ (j k : Nat) (x0 : Int) (xs : List Int), j < k → j ≤ 9 → xs.length + j ≤ 1000 → spec_l1Fixed.l0 k x0 xs ((j : Int) - 1) = some (strOfNums (xs ++ be j x0))
  | 0, k, x0, xs, hk, _, _ => by
    obtain ⟨k, rfl⟩ : ∃ m, k = m + 1 := ⟨k - 1, by omega⟩
    simp only [spec_l1Fixed.l0]
    rw [if_neg (by decide)]
    simp [be]
  | j + 1, k, x0, xs, hk, hj, hl => by
    obtain ⟨k, rfl⟩ : ∃ m, k = m + 1 := ⟨k - 1, by omega⟩
    simp only [spec_l1Fixed.l0]
    have e : ((j + 1 : Nat) : Int) - 1 = (j : Int) := by omega
    have e1 : wrap64 (8 * (j : Int)) = 8 * (j : Int) := by unfold wrap64; omega
    have e2 : wrap64 ((j : Int) - 1) = (j : Int) - 1 := by unfold wrap64; omega
    rw [e, if_pos (by omega), if_pos (by rw [e1, wrap_u64_in _ (by omega) (by omega)]; omega), if_pos (by omega), e2, fixed_shift x0 j (by omega)]
    rw [be_head, fixed_loop j k x0 _ (by omega) (by omega) (by simp; omega)]
    simp

theorem fixed_tells (k j : Nat) (x0 : Int) (hk : j < k) (hj : j ≤ 9) : spec_l1Fixed.f k x0 (j : Int) = some (strOfNums (be j x0)) := by
  unfold spec_l1Fixed.f
  have e2 : wrap64 ((j : Int) - 1) = (j : Int) - 1 := by unfold wrap64; omega
  rw [e2, fixed_loop j k x0 [] hk hj (by simp; omega)]
  simp

theorem or_i64 (x y : Int) (hx : x % 256 = 0) (h0 : 0 ≤ y) (h1 : y < 256) : Go.bits .or .i64 x y = wrap64 (x + y) := by
  show IntKind.i64.wrap ((BitVec.ofInt 64 x ||| BitVec.ofInt 64 y).toNat : Int) = _
  rw [or_toNat x y hx h0 h1, IntKind.wrap_i64]
  unfold wrap64
  omega
theorem l1big_loop (s : ByteArray) (hn : s.size ≤ 4611686018427387904) : ∀ (d k i : Nat) (a : Int), s.size = i + d → d < k → spec_l1Big.l0 k s (wrap64 a) (i : Int) = some (wrap64 (bigN ((bytesOf s).drop i) a))
  | 0, k, i, a, hd, hk => by
    obtain ⟨k, rfl⟩ : ∃ m, k = m + 1 := ⟨k - 1, by omega⟩
    simp only [spec_l1Big.l0]
    rw [if_neg (by omega), bytes_end s i (by omega)]
    rfl
  | d + 1, k, i, a, hd, hk => by
    obtain ⟨k, rfl⟩ : ∃ m, k = m + 1 := ⟨k - 1, by omega⟩
    have hb := bt_range s (i : Int)
    simp only [spec_l1Big.l0]
    have e : wrap64 ((i : Int) + 1) = ((i + 1 : Nat) : Int) := by unfold wrap64; omega
    have eb : wrap64 (bt s (i : Int)) = bt s (i : Int) := by unfold wrap64; omega
    rw [if_pos (by omega), if_pos (by omega), e, eb, or_i64 _ _ (by unfold wrap64; omega) hb.1 (by omega)]
    rw [show wrap64 (wrap64 (wrap64 a * 256) + bt s (i : Int)) = wrap64 (a * 256 + bt s (i : Int)) by unfold wrap64; omega]
    rw [l1big_loop s hn d k (i + 1) _ (by omega) (by omega), bytes_drop s i (by omega)]
    rfl

theorem ev_big (s : ByteArray) (hn : s.size ≤ 1048576) : Ev (fun k => spec_l1Big.f k s) (wrap64 (bigN (bytesOf s) 0)) := ⟨s.size + 1, fun k hk => by
  have := l1big_loop s (by omega) s.size k 0 0 (by omega) (by omega)
  simpa [spec_l1Big.f, show wrap64 0 = 0 from by decide +kernel] using this⟩
theorem ev_fixed (j : Nat) (x : Int) (hj : j ≤ 9) : Ev (fun k => spec_l1Fixed.f k x (j : Int)) (strOfNums (be j x)) := ⟨j + 1, fun k hk => fixed_tells k j x (by omega) hj⟩
theorem take_ge (l : List Int) (a b : Nat) (ha : l.length ≤ a) (hb : l.length ≤ b) : l.take a = l.take b := by rw [List.take_of_length_le ha, List.take_of_length_le hb]
theorem ctrL_length (key start text : ByteArray) : (ctrL key start text).length = text.size := tab_length _ _
theorem ctrL_succ (key start text : ByteArray) (j q : Nat) (hq : q < 16) (h : 16 * j + q < text.size) : (ctrL key start text).take (16 * j + (q + 1)) = (ctrL key start text).take (16 * j + q) ++ [Go.bits .xor .u8 (bt text ((16 * j + q : Nat) : Int)) (bt (encS key (ctrBlock start j)) (q : Int))] := by
  unfold ctrL
  rw [show 16 * j + (q + 1) = 16 * j + q + 1 by omega, tab_succ _ _ _ h, rd_bytesOf, show (16 * j + q) / 16 = j by omega, show (16 * j + q) % 16 = q by omega]
theorem ctr_l1 (key start text : ByteArray) (ks T : List Int) (n : Int) (ht : text.size ≤ 2000000) (j : Nat) (R : ByteArray) (hj : 16 * j < text.size) (n' : Int) (hn : (n + 1) % 4294967296 = n')
    (hR : Ev (fun k => spec_l3Counter.l0 k start text ks T n' ((ctrL key start text).take (16 * (j + 1))) ((16 * (j + 1) : Nat) : Int)) R) : ∀ d q : Nat, q + d = 16 →
    Ev (fun k => spec_l3Counter.l1 k start text ks T n ((ctrL key start text).take (16 * j + q)) ((16 * j : Nat) : Int) (encS key (ctrBlock start j)) (q : Int)) R
  | 0, q, h => by
    have e : q = 16 := by omega
    subst e
    have e1 : wrap64 (((16 * j : Nat) : Int) + 16) = ((16 * (j + 1) : Nat) : Int) := wrapS _ _ (by omega) (by omega) (by omega)
    refine Ev.step (fun k => ?_) hR
    simp only [spec_l3Counter.l1]
    rw [if_neg (by decide), hn, e1]
    rfl
  | d + 1, q, h => by
    have hl := ctrL_length key start text
    have hq : q < 16 := by omega
    have c1 : (q : Int) < 16 := by omega
    have e1 : wrap64 (((16 * j : Nat) : Int) + (q : Int)) = ((16 * j + q : Nat) : Int) := wrapS _ _ (by omega) (by omega) (by omega)
    have e2 : wrap64 (((16 * j : Nat) : Int) + 16) = ((16 * (j + 1) : Nat) : Int) := wrapS _ _ (by omega) (by omega) (by omega)
    by_cases hlt : 16 * j + q < text.size
    · have hsz := encS_size key (ctrBlock start j)
      have c2 : ((16 * j + q : Nat) : Int) < (text.size : Int) := by omega
      have c3 : (0 : Int) ≤ ((16 * j + q : Nat) : Int) := by omega
      have c4 : (0 : Int) ≤ (q : Int) := by omega
      have c5 : (q : Int) < ((encS key (ctrBlock start j)).size : Int) := by omega
      have c6 : ((ctrL key start text).take (16 * j + q)).length < 140737488355328 := by rw [List.length_take, hl]; omega
      have e3 : wrap64 ((q : Int) + 1) = ((q + 1 : Nat) : Int) := wrapS _ _ (by omega) (by omega) (by omega)
      have c7 : q + 1 + d = 16 := by omega
      refine Ev.step (fun k => ?_) (ctr_l1 key start text ks T n ht j R hj n' hn hR d (q + 1) c7)
      simp only [spec_l3Counter.l1]
      rw [if_pos c1, e1, e3, if_pos c2, if_pos c3, if_pos c4, if_pos c5, if_pos c6, ctrL_succ key start text j q hq hlt]
    · have hte : (ctrL key start text).take (16 * j + q) = (ctrL key start text).take (16 * (j + 1)) := take_ge _ _ _ (by omega) (by omega)
      have c2 : ¬ ((16 * j + q : Nat) : Int) < (text.size : Int) := by omega
      refine Ev.step (fun k => ?_) hR
      simp only [spec_l3Counter.l1]
      rw [if_pos c1, e1, e2, if_neg c2, hn, hte]
theorem ctr_l0 (key start text : ByteArray) (hk : key.size = 16) (hs : start.size = 16) (ht : text.size ≤ 2000000) : ∀ d j : Nat, text.size ≤ 16 * (j + d) →
    Ev (fun k => spec_l3Counter.l0 k start text (KS key) TB ((startN start + (j : Int)) % 4294967296) ((ctrL key start text).take (16 * j)) ((16 * j : Nat) : Int)) (ctrS key start text)
  | 0, j, h => by
    have hl := ctrL_length key start text
    refine Ev.step (f := fun _ => some (ctrS key start text)) (fun k => ?_) (Ev.now _)
    simp only [spec_l3Counter.l0]
    rw [if_neg (by omega), List.take_of_length_le (by omega)]
    rfl
  | d + 1, j, h => by
    have hl := ctrL_length key start text
    by_cases hlt : 16 * j < text.size
    · have ih := ctr_l0 key start text hk hs ht d (j + 1) (by omega)
      obtain ⟨n, hn⟩ : ∃ n, n = (startN start + (j : Int)) % 4294967296 := ⟨_, rfl⟩
      have hnb : 0 ≤ n ∧ n < 4294967296 := by omega
      have hn1 : (n + 1) % 4294967296 = (startN start + ((j + 1 : Nat) : Int)) % 4294967296 := by omega
      have hblk : start.extract 0 12 ++ strOfNums (be 4 n) = ctrBlock start j := by rw [hn]; rfl
      have hszb := ctrBlock_size start hs j
      rw [← hn]
      clear hn
      have h1 := ctr_l1 key start text (KS key) TB n ht j _ hlt _ hn1 ih 16 0 rfl
      have hw := Ev.bind (f := fun k u => spec_l3Counter.l1 k start text (KS key) TB n ((ctrL key start text).take (16 * j)) ((16 * j : Nat) : Int) u 0) (ev_withTB key (ctrBlock start j) hk hszb) h1
      have hf := Ev.bind (f := fun k t => if (start.extract 0 12).size + t.size ≤ 9223372036854775807 then ((spec_l3With.f k (KS key) TB ((start.extract 0 12) ++ t)).bind fun u => spec_l3Counter.l1 k start text (KS key) TB n ((ctrL key start text).take (16 * j)) ((16 * j : Nat) : Int) u 0) else none) (ev_fixed 4 n (by decide)) (Ev.congr (fun k => by
        have hsz : (start.extract 0 12).size + (strOfNums (be 4 n)).size ≤ 9223372036854775807 := by
          have : (start.extract 0 12 ++ strOfNums (be 4 n)).size = 16 := by rw [hblk]; exact hszb
          rw [ByteArray.size_append] at this
          omega
        rw [if_pos hsz, hblk]) hw)
      refine Ev.step (fun k => ?_) hf
      simp only [spec_l3Counter.l0]
      rw [if_pos (by omega), if_pos (by decide), if_pos (by omega), wrapS n n rfl (by omega) (by omega)]
      rfl
    · refine Ev.step (f := fun _ => some (ctrS key start text)) (fun k => ?_) (Ev.now _)
      simp only [spec_l3Counter.l0]
      rw [if_neg (by omega), List.take_of_length_le (by omega)]
      rfl
theorem ev_counter (key start text : ByteArray) (hk : key.size = 16) (hs : start.size = 16) (ht : text.size ≤ 2000000) : Ev (fun k => spec_l3Counter.f k key start text) (ctrS key start text) := by
  have h0 : Ev (fun k => spec_l3Counter.l0 k start text (KS key) TB ((startN start + ((0 : Nat) : Int)) % 4294967296) [] 0) (ctrS key start text) := ctr_l0 key start text hk hs ht text.size 0 (by omega)
  have hst : (wrap64 (bigN (bytesOf (start.extract 12 start.size)) 0)) % 4294967296 = (startN start + ((0 : Nat) : Int)) % 4294967296 := by
    unfold startN wrap64
    omega
  have h1 := Ev.bind (f := fun k t => spec_l3Counter.l0 k start text (KS key) TB (t % 4294967296) [] 0) (ev_big (start.extract 12 start.size) (by rw [ByteArray.size_extract]; omega)) (by rw [hst]; exact h0)
  have h2 := Ev.bind (f := fun k T => if 12 ≤ (start.size : Int) then ((spec_l1Big.f k (start.extract 12 start.size)).bind fun t => spec_l3Counter.l0 k start text (KS key) T (t % 4294967296) [] 0) else none) ev_TB (Ev.congr (fun k => by rw [if_pos (by omega)]) h1)
  exact Ev.bind (f := fun k w => (spec_l3Table.f k).bind fun T => if 12 ≤ (start.size : Int) then ((spec_l1Big.f k (start.extract 12 start.size)).bind fun t => spec_l3Counter.l0 k start text w T (t % 4294967296) [] 0) else none) (ev_keys key hk) h2
end Go.Proofs.YtimokakcdmcnnaaV.Aes
