/- Shared lemmas and walks of the AES laws of this seat. -/
import Derived.Test.YtimokakcdmcnnaaVAes12
import Derived.Test.YtimokakcdmcnnaaPImplAx1
import Derived.Laws.BitsLemmas
namespace Go.Proofs.YtimokakcdmcnnaaV.Aes
open Go.RowKit Go.Proofs.YtimokakcdmcnnaaV.PrintWords Go.Proofs.YtimokakcdmcnnaaV.PrintLast Go.Proofs.YtimokakcdmcnnaaV.PrintMore Go.Proofs.YtimokakcdmcnnaaV.Mem
set_option linter.unusedVariables false
set_option linter.unusedSimpArgs false

open Go.Proofs.Ytimokakcdmcnnaa.PImplA
/-- A number's last bytes, so many, the highest first. -/
def be : Nat → Int → List Int
  | 0, _ => []
  | m + 1, n => be m (n / 256) ++ [n % 256]
theorem be_length : ∀ (m : Nat) (n : Int), (be m n).length = m
  | 0, _ => rfl
  | m + 1, n => by simp [be, be_length m]
theorem be_head : ∀ (m : Nat) (n : Int), be (m + 1) n = (n / 256 ^ m % 256) :: be m n
  | 0, n => by simp [be]
  | m + 1, n => by
    have ih := be_head m (n / 256)
    show be (m + 1) (n / 256) ++ [n % 256] = _ :: (be m (n / 256) ++ [n % 256])
    rw [ih, Int.ediv_ediv_of_nonneg (by decide), ← Int.pow_succ']
    rfl
theorem wrap_u64_in (n : Int) (h0 : 0 ≤ n) (h1 : n < 18446744073709551616) : IntKind.u64.wrap n = n := by
  simp [IntKind.wrap, IntKind.bits, IntKind.signed]; omega

theorem bigEndian_loop : ∀ (j k : Nat) (x0 : Int) (tail : List Int), j < k → j ≤ 1000000 → impl_bigEndian.l0 k x0 (List.replicate j 0 ++ tail) ((j : Int) - 1) = some (strOfNums (be j x0 ++ tail))
  | 0, k, x0, tail, hk, _ => by
    obtain ⟨k, rfl⟩ : ∃ m, k = m + 1 := ⟨k - 1, by omega⟩
    simp only [impl_bigEndian.l0]
    rw [if_neg (by decide)]
    simp [be]
  | j + 1, k, x0, tail, hk, hj => by
    obtain ⟨k, rfl⟩ : ∃ m, k = m + 1 := ⟨k - 1, by omega⟩
    simp only [impl_bigEndian.l0]
    have e : ((j + 1 : Nat) : Int) - 1 = (j : Int) := by omega
    rw [e, if_pos (by omega), if_pos (by omega), if_pos (by simp; omega)]
    have e2 : wrap64 ((j : Int) - 1) = (j : Int) - 1 := by unfold wrap64; omega
    have e3 : (List.replicate (j + 1) (0 : Int) ++ tail).set ((j : Int)).toNat (x0 % 256) = List.replicate j 0 ++ ((x0 % 256) :: tail) := by
      rw [Int.toNat_natCast, List.replicate_succ', List.append_assoc, List.set_append_right _ _ (by simp)]
      simp
    rw [e2, e3, bigEndian_loop j k (x0 / 256) _ (by omega) (by omega)]
    simp [be]

theorem bigEndian_tells (k j : Nat) (x0 : Int) (hk : j < k) (hj : j ≤ 1000000) : impl_bigEndian.f k x0 (j : Int) = some (strOfNums (be j x0)) := by
  unfold impl_bigEndian.f
  have e2 : wrap64 ((j : Int) - 1) = (j : Int) - 1 := by unfold wrap64; omega
  rw [if_pos (by omega), if_pos (by omega), e2, Int.toNat_natCast]
  have := bigEndian_loop j k x0 [] hk hj
  simpa using this

/-- The number that bytes tell, the highest first. -/
def bigN : List Int → Int → Int
  | [], a => a
  | b :: l, a => bigN l (a * 256 + b)
theorem or_toNat (x y : Int) (hx : x % 256 = 0) (h0 : 0 ≤ y) (h1 : y < 256) : ((BitVec.ofInt 64 x ||| BitVec.ofInt 64 y).toNat : Int) = x % 18446744073709551616 + y := by
  obtain ⟨b, rfl⟩ := Int.eq_ofNat_of_zero_le h0
  have hb : b < 2 ^ 8 := by omega
  obtain ⟨X, hX⟩ := Int.eq_ofNat_of_zero_le (show 0 ≤ x % 18446744073709551616 by omega)
  have e1 : (BitVec.ofInt 64 x).toNat = X := by
    rw [BitVec.toNat_ofInt]
    have : (x % ((2 ^ 64 : Nat) : Int)).toNat = X := by
      have h2 : ((2 ^ 64 : Nat) : Int) = 18446744073709551616 := by decide
      rw [h2, hX]; rfl
    exact this
  have e2 : (BitVec.ofInt 64 (b : Int)).toNat = b := by
    rw [BitVec.ofInt_natCast, BitVec.toNat_ofNat]
    omega
  rw [BitVec.toNat_or, e1, e2]
  have hq : X = 2 ^ 8 * (X / 2 ^ 8) := by omega
  rw [hq, ← Nat.two_pow_add_eq_or_of_lt hb (X / 2 ^ 8), ← hq, hX]
  rfl
theorem u64_mod (n : Int) : IntKind.u64.wrap n = n % 18446744073709551616 := by simp [IntKind.wrap, IntKind.bits, IntKind.signed]
theorem or_u64 (x y : Int) (hx : x % 256 = 0) (h0 : 0 ≤ y) (h1 : y < 256) : Go.bits .or .u64 x y = (x + y) % 18446744073709551616 := by
  show IntKind.u64.wrap ((BitVec.ofInt 64 x ||| BitVec.ofInt 64 y).toNat : Int) = _
  rw [or_toNat x y hx h0 h1, u64_mod]
  omega
theorem bytes_drop (s : ByteArray) (i : Nat) (h : i < s.size) : (bytesOf s).drop i = bt s (i : Int) :: (bytesOf s).drop (i + 1) := by
  have hl : i < (bytesOf s).length := by rw [bytesOf_length]; exact h
  rw [List.drop_eq_getElem_cons hl, ← rd_bytesOf]
  simp [rd, List.getD_eq_getElem?_getD, List.getElem?_eq_getElem hl]
theorem bytes_end (s : ByteArray) (i : Nat) (h : s.size ≤ i) : (bytesOf s).drop i = [] := List.drop_eq_nil_of_le (by rw [bytesOf_length]; exact h)
theorem numof_loop (s : ByteArray) (hn : s.size ≤ 4611686018427387904) : ∀ (d k i : Nat) (a : Int), s.size = i + d → d < k → impl_numberOf.l0 k s (a % 18446744073709551616) (s.size : Int) (i : Int) = some ((bigN ((bytesOf s).drop i) a) % 18446744073709551616)
  | 0, k, i, a, hd, hk => by
    obtain ⟨k, rfl⟩ : ∃ m, k = m + 1 := ⟨k - 1, by omega⟩
    simp only [impl_numberOf.l0]
    rw [if_neg (by omega), bytes_end s i (by omega)]
    rfl
  | d + 1, k, i, a, hd, hk => by
    obtain ⟨k, rfl⟩ : ∃ m, k = m + 1 := ⟨k - 1, by omega⟩
    have hb := bt_range s (i : Int)
    simp only [impl_numberOf.l0]
    have e : wrap64 ((i : Int) + 1) = ((i + 1 : Nat) : Int) := by unfold wrap64; omega
    rw [if_pos (by omega), if_pos (by omega), if_pos (by omega), e, u64_mod, u64_mod (bt s (i : Int)), or_u64 _ _ (by omega) (by omega) (by omega)]
    rw [show (a % 18446744073709551616 * 256 % 18446744073709551616 + bt s (i : Int) % 18446744073709551616) % 18446744073709551616 = (a * 256 + bt s (i : Int)) % 18446744073709551616 by omega]
    rw [numof_loop s hn d k (i + 1) _ (by omega) (by omega), bytes_drop s i (by omega)]
    rfl

theorem numof_small (s : ByteArray) (hn : s.size ≤ 8) : impl_numberOf.f 9 s = some ((bigN (bytesOf s) 0) % 18446744073709551616) := by
  have := numof_loop s (by omega) s.size 9 0 0 (by omega) (by omega)
  simpa [impl_numberOf.f] using this
theorem be_walk (n : Int) (j : Nat) (hj : j ≤ 100) (w : World) : Calls Try.prog 81 #[.int .u64 n, .int .i64 (j : Int)] w fun e w' => e = .returned (.string (strOfNums (be j n))) ∧ Below w.heap.size w w' :=
  impl_bigEndian.calls 101 n (j : Int) _ w (bigEndian_tells 101 j n (by omega) (by omega))
theorem be4_walk (n : Int) (w : World) : Calls Try.prog 81 #[.int .u64 n, .int .i64 4] w fun e w' => e = .returned (.string (strOfNums (be 4 n))) ∧ Below w.heap.size w w' := be_walk n 4 (by decide) w
theorem num_walk (s : ByteArray) (hs : s.size ≤ 8) (w : World) : Calls Try.prog 97 #[.string s] w fun e w' => e = .returned (.int .u64 (bigN (bytesOf s) 0 % 18446744073709551616)) ∧ Drawn0 w w' :=
  impl_numberOf.calls 9 s _ w (numof_small s hs)
theorem str_size (l : List Int) : (strOfNums l).size = l.length := by simp [strOfNums, ByteArray.size]
/-- The number at which a counter starts; the j-th block that it encrypts; what it makes of a text. -/
def startN (start : ByteArray) : Int := bigN (bytesOf (start.extract 12 start.size)) 0 % 18446744073709551616 % 4294967296
def ctrBlock (start : ByteArray) (j : Nat) : ByteArray := start.extract 0 12 ++ strOfNums (be 4 ((startN start + (j : Int)) % 4294967296))
def ctrL (key start text : ByteArray) : List Int := tab text.size fun k => Go.bits .xor .u8 (rd (bytesOf text) (k : Int)) (bt (encS key (ctrBlock start (k / 16))) ((k % 16 : Nat) : Int))
def ctrS (key start text : ByteArray) : ByteArray := strOfNums (ctrL key start text)
theorem ctrBlock_size (start : ByteArray) (h : start.size = 16) (j : Nat) : (ctrBlock start j).size = 16 := by
  unfold ctrBlock
  rw [ByteArray.size_append, str_size, be_length, ByteArray.size_extract]
  omega
theorem encS_size (a b : ByteArray) : (encS a b).size = 16 := by
  unfold encS
  rw [str_size]
  exact encN_length _ _ _ _
attribute [local go_sem] max2_int min2_int max_two min_two max_three min_three max_four min_four
theorem backAll (l z : List Int) (n : Nat) (hl : l.length = n) (g cap : Nat) (w : World) (h : At w g 5 (l ++ z)) : (convert 43 9 (.slice (some ⟨g, 0, none⟩) n cap)).run Try.prog w = .ok (.string (strOfNums l)) w := by
  refine run_convert_bytes_arg (P := Try.prog) w 43 5 Try.underlying43 Try.underlying5 g 0 n cap l hl (fun i hi => ?_) 9 Try.underlying9
  rw [h.cell (by simp; omega)]
  have : i < l.length := by omega
  simp [rd, List.getD_eq_getElem?_getD, List.getElem?_append_left this]
theorem u32_wrap (V : Int) : IntKind.u32.wrap V = V % 4294967296 := by simp [IntKind.wrap, IntKind.bits, IntKind.signed]
set_option maxHeartbeats 8000000 in
set_option maxRecDepth 100000 in
theorem counter_walk (key start text : ByteArray) (hk : key.size = 16) (hs : start.size = 16) (ht : text.size ≤ 2000000) (g gb gk cap : Nat) (w : World) (hC : Ci w g gb gk cap BX (KS key)) :
    Calls Try.prog 61 #[.pointer (some ⟨g, 0, none⟩), .string start, .string text] w fun e w' => e = .returned (.string (ctrS key start text)) ∧ Below w.heap.size w w' := by
  have hcv := fun wx => Lib.run_convert_string_bytes (P := Try.prog) wx 9 43 5 text Try.underlying9 Try.underlying43 Try.underlying5
  have hg1 := hC.lt
  have hg2 := hC.atBox.lt
  have hg3 := hC.ltk
  have hnum := num_walk (start.extract 12 start.size) (by rw [ByteArray.size_extract]; omega)
  have hn0 : bigN (bytesOf (start.extract 12 start.size)) 0 % 18446744073709551616 % 4294967296 = startN start := rfl
  obtain ⟨V, hV⟩ : ∃ V, V = bigN (bytesOf (start.extract 12 start.size)) 0 % 18446744073709551616 := ⟨_, rfl⟩
  rw [← hV] at hnum hn0
  clear hV
  obtain ⟨N0, hN0⟩ : ∃ N0, N0 = V % 4294967296 := ⟨_, rfl⟩
  have hNb : 0 ≤ N0 ∧ N0 < 4294967296 := by omega
  have hwV : IntKind.u32.wrap V = N0 := by rw [u32_wrap, hN0]
  rw [← hN0] at hn0
  have HwV := Lib.hid hwV
  have Hn0 := Lib.hid hn0
  clear hn0 hN0 hwV
  have hs12 : (12 : Int) ≤ (start.size : Int) := by omega
  have hs12n : 12 ≤ start.size := by omega
  have hblks : ∀ j, (ctrBlock start j).size = 16 := ctrBlock_size start hs
  have henc0 := fun (j : Nat) (W : World) (h : Ci W g gb gk cap BX (KS key)) => enc_walk key (ctrBlock start j) hk (hblks j) g gb gk cap W h
  have hencs : ∀ j, (encS key (ctrBlock start j)).size = 16 := fun j => encS_size _ _
  clear hblks
  have Hs := Lib.hid hs
  clear hs
  obtain ⟨tx, htx⟩ : ∃ tx, tx = bytesOf text := ⟨_, rfl⟩
  have htl : tx.length = text.size := by rw [htx, bytesOf_length]
  have hret : ∀ l, l = ctrL key start text → strOfNums l = ctrS key start text := fun l h => by rw [h]; rfl
  have hCL : ctrL key start text = tab text.size fun (k : Nat) => Go.bits .xor .u8 (rd tx (k : Int)) (bt (encS key (ctrBlock start (k / 16))) ((k % 16 : Nat) : Int)) := by rw [htx]; rfl
  obtain ⟨F, hF⟩ : ∃ F : Nat → Int, F = fun (k : Nat) => Go.bits .xor .u8 (rd tx (k : Int)) (bt (encS key (ctrBlock start (k / 16))) ((k % 16 : Nat) : Int)) := ⟨_, rfl⟩
  rw [← hF] at hCL
  rw [hCL] at hret
  clear hCL
  have HF := Lib.hid hF
  have Hret := Lib.hid hret
  clear hF hret
  have hA0 := fun W => At.bytes W 5 text
  rw [← htx] at hA0
  clear htx
  obtain ⟨R, hR⟩ : ∃ R, R = ctrS key start text := ⟨_, rfl⟩
  rw [← hR]
  have HR := Lib.hid hR
  have Htl := Lib.hid htl
  clear hR htl
  go_enter Try.func61, Try.ntmps61
  go_wp2
  go_region_with (go_at_call 97; refine (hnum _).mono ?_; rintro e w' ⟨rfl, nd, rfl⟩)
  all_goals (
    have hwV := HwV.out
    go_wp2
    try rw [hwV]
    clear hwV
    go_loopw [10, 9] (fun v y wr => ∃ i j : Nat, ∃ nn : Int, (i ≤ 16 * j ∧ 16 * j ≤ i) ∧ i ≤ text.size + 15 ∧ v = .int .i64 (i : Int) ∧ y = .int .u32 nn ∧ (0 ≤ nn ∧ nn < 4294967296) ∧ Hid (nn = (N0 + (j : Int)) % 4294967296) ∧ (∃ z, At wr w.heap.size 5 ((tab text.size F).take i ++ tx.drop i ++ z)) ∧ Below w.heap.size w wr)
      (fun v _ _ => text.size + 16 - (intOf v).toNat)
    case atStart =>
      refine ⟨0, 0, N0, ⟨by omega, by omega⟩, by omega, rfl, rfl, hNb, Lib.hid (by omega), ?_, ?_⟩
      · first
          | exact ⟨_, by rw [show (tab text.size F).take 0 ++ tx.drop 0 ++ _ = tx ++ _ from tab_start _ _ _ _]; exact (hA0 w.drew).drew nd⟩
          | exact ⟨_, by rw [show (tab text.size F).take 0 ++ tx.drop 0 ++ _ = tx ++ _ from tab_start _ _ _ _]; exact hA0 (w.drewN (1 + nd))⟩
      · first
          | exact below_drewN' (bytes_below (below_drewN' (Below.refl w.heap.size w) 1) (Nat.le_refl _) 5 text) nd
          | exact bytes_below (below_drewN' (Below.refl w.heap.size w) (1 + nd)) (Nat.le_refl _) 5 text
    case round =>
      obtain ⟨i, j, nn, hij, hiL, rfl, rfl, hnb, Hnn, ⟨z, hA⟩, hBl⟩ := hrel
      by_cases hi : i < text.size
      · have hblk : start.extract 0 12 ++ strOfNums (be 4 nn) = ctrBlock start j := by
          unfold ctrBlock
          rw [← Hn0.out, ← Hnn.out]
        have hst4 : (strOfNums (be 4 nn)).size ≤ 4 := by rw [str_size, be_length]; exact Nat.le_refl _
        have hbe := be4_walk nn
        obtain ⟨st4, hst⟩ : ∃ st4, st4 = strOfNums (be 4 nn) := ⟨_, rfl⟩
        rw [← hst] at hst4 hbe hblk
        clear hst
        have henc := fun (W : World) (h : Ci W g gb gk cap BX (KS key)) => henc0 j W h
        rw [← hblk] at henc
        obtain ⟨blk, hbl⟩ : ∃ blk, blk = encS key (start.extract 0 12 ++ st4) := ⟨_, rfl⟩
        have hbs : blk.size ≤ 16 ∧ 16 ≤ blk.size := by rw [hbl, hblk, hencs j]; exact ⟨Nat.le_refl _, Nat.le_refl _⟩
        rw [← hbl] at henc
        rw [hblk] at hbl
        have Hbl := Lib.hid hbl
        clear hbl hblk
        have hcat : ¬ 9223372036854775807 < min 12 start.size + st4.size := by omega
        have h64 : IntKind.u64.wrap nn = nn := wrap_u64_in nn hnb.1 (by omega)
        go_wp2_with (first
          | (go_at_call 81; refine (hbe _).mono ?_; rintro e w2 ⟨rfl, hb2⟩)
          | (go_at_call 59; refine (henc _ (hC.below (hBl.trans (hb2.mono hBl.size)) hg1 hg2 hg3)).mono ?_; rintro e w3 ⟨rfl, hb3⟩))
        have hBl3 : Below w.heap.size w w3 := (hBl.trans (hb2.mono hBl.size)).trans (hb3.mono (Nat.le_trans hBl.size hb2.size))
        have hA3 : At w3 w.heap.size 5 ((tab text.size F).take i ++ tx.drop i ++ z) := (hA.below hb2 hA.lt).below hb3 (Nat.lt_of_lt_of_le hA.lt hb2.size)
        clear hb2 hb3 hA hBl
        have hcat2 := hcat
        clear hcat hbe henc hst4
        obtain ⟨m, hmE, hmi, hmL, hmor⟩ : ∃ m : Nat, (if (text.size : Int) < (i : Int) + 16 then (text.size : Int) else (i : Int) + 16) = (m : Int) ∧ m ≤ i + 16 ∧ m ≤ text.size ∧ (i + 16 ≤ m ∨ text.size ≤ m) := by
          by_cases h : (text.size : Int) < (i : Int) + 16
          · exact ⟨text.size, by rw [if_pos h], by omega, Nat.le_refl _, .inr (Nat.le_refl _)⟩
          · exact ⟨i + 16, by rw [if_neg h]; omega, Nat.le_refl _, by omega, .inl (Nat.le_refl _)⟩
        have him : i ≤ m := by omega
        go_loopw [12] (fun v wx => ∃ k : Nat, i ≤ k ∧ k ≤ m ∧ v = .int .i64 (k : Int) ∧ At wx w.heap.size 5 ((tab text.size F).take k ++ tx.drop k ++ z) ∧ Below w.heap.size w wx)
          (fun v _ => text.size - (intOf v).toNat)
        case atStart => exact ⟨i, Nat.le_refl _, him, rfl, hA3, hBl3⟩
        case round =>
          clear hA3 hBl3
          obtain ⟨k, hik, hkm, rfl, hA, hBl⟩ := hrel
          by_cases hkk : k < m
          · have hkmi : (k : Int) < (m : Int) := by omega
            have hkL : k < text.size := by omega
            have hkLi : (k : Int) < (text.size : Int) := by omega
            obtain ⟨q, hq⟩ : ∃ q, q + i = k := ⟨k - i, by omega⟩
            have hq16 : q < blk.size := by omega
            have hq16i : (q : Int) < (blk.size : Int) := by omega
            have hkd : k / 16 = j ∧ k % 16 = q := by omega
            have hmeas : text.size - (k + 1) < text.size - k := by omega
            have hk1m : k + 1 ≤ m := by omega
            have hik1 : i ≤ k + 1 := by omega
            have htl2 := Htl.out
            have hl : ((tab text.size F).take k ++ tx.drop k ++ z).length = text.size + z.length := tab_both _ _ _ _ htl2 k (by omega)
            have c2 : wr.cell? ⟨w.heap.size, k, none⟩ = some (.int .u8 (rd tx (k : Int))) := by
              rw [hA.cell (by omega)]
              rw [show rd ((tab text.size F).take k ++ tx.drop k ++ z) (k : Int) = rd tx (k : Int) from tab_rest _ _ _ _ htl2 k k (Nat.le_refl _) hkL]
            have f2 : wr.frozen? ⟨w.heap.size, k, none⟩ = false := hA.frozen (by omega)
            have hbtq : ((blk[q]'hq16).toNat : Int) = bt blk (q : Int) := bt_at blk (q : Int) hq16
            have fin : ∀ nd : Nat, At ((wr.drewN nd).setCell ⟨w.heap.size, k, none⟩ (.int .u8 (Go.bits .xor .u8 (rd tx (k : Int)) (bt blk (q : Int))))) w.heap.size 5 ((tab text.size F).take (k + 1) ++ tx.drop (k + 1) ++ z) ∧
                Below w.heap.size w ((wr.drewN nd).setCell ⟨w.heap.size, k, none⟩ (.int .u8 (Go.bits .xor .u8 (rd tx (k : Int)) (bt blk (q : Int))))) := by
              intro nd
              have hs := (hA.drew nd).set (i := k) (x := Go.bits .xor .u8 (rd tx (k : Int)) (bt blk (q : Int)))
              have e : ((tab text.size F).take k ++ tx.drop k ++ z).set k (Go.bits .xor .u8 (rd tx (k : Int)) (bt blk (q : Int))) = (tab text.size F).take (k + 1) ++ tx.drop (k + 1) ++ z := by
                have hFk : F k = Go.bits .xor .u8 (rd tx (k : Int)) (bt blk (q : Int)) := by rw [HF.out, Hbl.out]; dsimp only; rw [hkd.1, hkd.2]
                rw [← hFk]
                exact tab_step text.size F tx z htl2 k hkL
              rw [e] at hs
              exact ⟨hs, (below_drewN' hBl nd).setCell (Nat.le_refl _) _⟩
            have hws : IntKind.i64.wrap ((k : Int) - (i : Int)) = (q : Int) := by rw [IntKind.wrap_i64]; omega
            clear hA hBl hl hq hkd htl2
            go_wp2
            go_region
            all_goals (
              have fin1 := fin 1
              clear fin c2 f2 hws hbtq
              go_wp2
              go_roundw
              case rel => exact ⟨k + 1, hik1, hk1m, by go_num, fin1.1, fin1.2⟩
              case measure => simp [intOf]; omega)
          · have hkme : k = m := by omega
            subst hkme
            have hstate : (tab text.size F).take k ++ tx.drop k = (tab text.size F).take (i + 16) ++ tx.drop (i + 16) := by
              have := Htl.out
              rcases hmor with h | h
              · rw [show k = i + 16 by omega]
              · rw [List.take_of_length_le (by rw [tab_length]; omega), List.drop_eq_nil_of_le (by omega), List.take_of_length_le (by rw [tab_length]; omega), List.drop_eq_nil_of_le (by omega)]
            rw [hstate] at hA
            have hnkm : ¬ (k : Int) < (k : Int) := by omega
            have hij1 : i + 16 ≤ 16 * (j + 1) ∧ 16 * (j + 1) ≤ i + 16 := by omega
            have hi16 : i + 16 ≤ text.size + 15 := by omega
            have hnn2 : (nn + 1) % 4294967296 = (N0 + ((j + 1 : Nat) : Int)) % 4294967296 := by have := Hnn.out; omega
            have Hnn2 := Lib.hid hnn2
            have hnb2 : 0 ≤ (nn + 1) % 4294967296 ∧ (nn + 1) % 4294967296 < 4294967296 := by omega
            have hw32 : IntKind.u32.wrap (nn + 1) = (nn + 1) % 4294967296 := u32_wrap _
            clear hstate hnn2
            go_wp2
            go_roundw
            case rel => exact ⟨i + 16, j + 1, (nn + 1) % 4294967296, hij1, hi16, by go_num, by rfl, hnb2, Hnn2, ⟨z, hA⟩, hBl⟩
            case measure => simp [intOf]; omega
      · have hend : (tab text.size F).take i ++ tx.drop i = tab text.size F := by
          have := Htl.out
          rw [List.take_of_length_le (by rw [tab_length]; omega), List.drop_eq_nil_of_le (by omega), List.append_nil]
        rw [hend] at hA
        have hni : ¬ (i : Int) < (text.size : Int) := by omega
        have hback := fun cp => backAll (tab text.size F) z text.size (tab_length _ _) w.heap.size cp wr hA
        have hR2 := HR.out
        have hRt := Hret.out _ rfl
        rw [hRt] at hback
        rw [← hR2] at hback
        clear hR2 hRt hend hA
        go_wp2
        go_ret
        exact ⟨rfl, hBl⟩)
end Go.Proofs.YtimokakcdmcnnaaV.Aes
