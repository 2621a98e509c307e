/- The reference's hasher: l4New and (*l4H).hmac, walked. Conditions: the texts are short. -/
import Derived.Test.YtnkakkfjfjeaeaaVHu
import Derived.StillTailTactics
import Derived.Lib.LazyBuf
import Derived.Deep.CutBlock
import Derived.Deep.Cut
namespace Go.Proofs.YtnkakkfjfjeaeaaV.Aes
open Go.RowKit Go.Proofs.YtnkakkfjfjeaeaaV.PrintWords Go.Proofs.YtnkakkfjfjeaeaaV.PrintLast Go.Proofs.YtnkakkfjfjeaeaaV.PrintMore Go.Proofs.YtnkakkfjfjeaeaaV.Mem
set_option linter.unusedVariables false
set_option linter.unusedSimpArgs false

open Go.Proofs.YtnkakkfjfjeaeaaV.Mem in
theorem words64_at (w : World) : Calls Try.prog 35 #[.int .i64 64, .int .i64 3] w fun e w' => ∃ g cap, e = .returned (.slice (some ⟨g, 0, none⟩) 64 cap) ∧ 64 ≤ cap ∧ Wat w' g 0 KW ∧ Below w.heap.size w w' := by
  refine (l4Words64_walk w).mono ?_
  rintro e w' ⟨v, rfl, hR, hB⟩
  obtain ⟨g, cap, rfl, hW⟩ := R_at hR (by decide)
  obtain ⟨_, hc, _⟩ := Kd.R_reads' hR
  exact ⟨g, cap, rfl, hc, hW, hB⟩
theorem words8_at (w : World) : Calls Try.prog 35 #[.int .i64 8, .int .i64 2] w fun e w' => ∃ g cap, e = .returned (.slice (some ⟨g, 0, none⟩) 8 cap) ∧ 8 ≤ cap ∧ Wat w' g 0 HW ∧ Below w.heap.size w w' := by
  refine (l4Words8_walk w).mono ?_
  rintro e w' ⟨v, rfl, hR, hB⟩
  obtain ⟨g, cap, rfl, hW⟩ := R_at hR (by decide)
  obtain ⟨_, hc, _⟩ := Kd.R_reads' hR
  exact ⟨g, cap, rfl, hc, hW, hB⟩
theorem l4New_walk (w : World) : Calls Try.prog 40 #[] w fun e w' => ∃ hb, e = .returned (.pointer (some ⟨hb, 0, none⟩)) ∧ Hok w' hb ∧ Below w.heap.size w w' := by
  go_enter Try.func40, Try.ntmps40
  go_wp2_with (first
    | (go_at_call 35; (with_reducible refine (words64_at _).mono ?_); rintro e w1 ⟨gw, cw, rfl, hcw, hK, hB1⟩)
    | (go_at_call 35; (with_reducible refine (words8_at _).mono ?_); rintro e w2 ⟨gf, cf, rfl, hcf, hF, hB2⟩))
  go_ret
  have hK2 := hK.below hB2 hK.1
  have hal := (Below.refl w2.heap.size w2).alloc (Nat.le_refl _) (.cells #[.slice (some ⟨gw, 0, none⟩) 64 cw, .slice (some ⟨gf, 0, none⟩) 8 cf] 71)
  exact ⟨w2.heap.size, rfl, ⟨gw, cw, gf, cf, 71, heap_alloc_new w2 _, hcw, hcf, hK2.below hal hK2.1, hF.below hal hF.1⟩, (hB1.trans (hB2.mono hB1.size)).alloc (Nat.le_trans hB1.size hB2.size) _⟩
theorem Hok.of_heap {w wx : World} {hb : Nat} (h : Hok w hb) (e : wx.heap = w.heap) : Hok wx hb := by
  have hc : ∀ a, wx.cell? a = w.cell? a := fun a => by unfold World.cell?; rw [e]
  obtain ⟨gw, cw, gf, cf, t, h1, hw, hf, h2, h3⟩ := h.ex
  exact ⟨gw, cw, gf, cf, t, by rw [e]; exact h1, hw, hf, ⟨by rw [e]; exact h2.1, fun i hi => by rw [hc]; exact h2.2 i hi⟩, ⟨by rw [e]; exact h3.1, fun i hi => by rw [hc]; exact h3.2 i hi⟩⟩
theorem below_sets {B g : Nat} {w : World} (hg : B ≤ g) : ∀ (vs : List Value) (o : Nat) (w' : World), Below B w w' → Below B w (w'.setCells g o vs)
  | [], _, _, h => h
  | v :: vs, o, w', h => below_sets hg vs (o + 1) _ (h.setCell (p := ⟨g, o, none⟩) hg v)
/-- A key of one block's length, told as bytes; a row of bytes with one put upon each; the keyed hash. -/
def keyB (key : ByteArray) : ByteArray := if 64 < key.size then shaS key else key
def keyL (key : ByteArray) : List Int := bytesOf (keyB key) ++ List.replicate (64 - (keyB key).size) 0
def padX (l : List Int) (c : Int) : List Int := tab 64 fun i => Go.bits .xor .u8 (rd l (i : Int)) c
def hmacS (key s : ByteArray) : ByteArray := shaS (strOfNums (padX (keyL key) 92) ++ shaS (strOfNums (padX (keyL key) 54) ++ s))
theorem hmacS_size (key s : ByteArray) : (hmacS key s).size = 32 := shaS_size _
theorem keyB_size (key : ByteArray) : (keyB key).size ≤ 64 := by
  unfold keyB
  split
  · rw [shaS_size]; decide
  · omega
theorem keyL_length (key : ByteArray) : (keyL key).length = 64 := by
  have := keyB_size key
  unfold keyL
  rw [List.length_append, bytesOf_length, List.length_replicate]
  omega
theorem padX_size (l : List Int) (c : Int) : (strOfNums (padX l c)).size = 64 := by rw [str_size, padX, tab_length]
theorem make64 (wx : World) : (Instr.makeSlice 75 (.int .i64 64) (.int .i64 64)).run Try.prog wx = .ok (.slice (some ⟨wx.heap.size, 0, none⟩) 64 64) (wx.alloc (.cells (u8s (List.replicate 64 0)) 5)) := by kernel_rfl
theorem backB (l : List Int) (n : Nat) (hl : l.length = n) (g : Nat) (w : World) (h : At w g 5 l) : (convert 75 9 (.slice (some ⟨g, 0, none⟩) n n)).run Try.prog w = .ok (.string (strOfNums l)) w := by
  refine run_convert_bytes_arg (P := Try.prog) w 75 5 Try.underlying75 Try.underlying5 g 0 n n l hl (fun i hi => ?_) 9 Try.underlying9
  rw [h.cell (by omega)]
  have : i < l.length := by omega
  simp [rd, List.getD_eq_getElem?_getD, List.getElem?_eq_getElem this]
theorem wpList_copied {P : Program} (w : World) {ops : Array Oper} {rest : List Oper} {o : Oper} {a : Act} {Q : Exit → Act → World → Prop} (hgd : o.guard = none) {d s : Operand} {t t' : TypeId}
    (ho : o.op = .call { callee := .builtin .copy, args := #[d, s], argTypes := #[t, t'] }) {v u v' : Value} {w' : World} (hd : a.eval d = v) (hs : a.eval s = u)
    (hr : (Builtin.copy_ #[t, t'] o.type #[v, u]).run P w = .ok v' w') (h : wpList P ops Q rest (a.put o.dst v') w') : wpList P ops Q (o :: rest) a w := by
  refine wpList_plain hgd fun K hK => ?_
  unfold Oper.wp execOp
  simp only [ho, resolve, invoke, builtin, Sem.run_bind, Sem.run_pure, Result.andThen_ok, List.map_toArray, List.map_cons, List.map_nil, hd, hs, hr]
  exact hK _ _ h
theorem copy_key (w : World) (g : Nat) (K : ByteArray) (hK : K.size ≤ 64) (h : At w g 5 (List.replicate 64 0)) :
    (Builtin.copy_ #[75, 9] 3 #[.slice (some ⟨g, 0, none⟩) 64 64, .string K]).run Try.prog w = .ok (.int .i64 (K.size : Int)) (w.setCells g 0 ((bytesOf K).map fun n => Value.int .u8 n)) := by
  have := run_copy_string (P := Try.prog) w 75 9 3 5 g 0 64 64 K Try.underlying75 (fun _ => by kernel_rfl) hK (fun j hj => by rw [Nat.zero_add, h.cell (by simp; omega)]; rfl) (fun j hj => by rw [Nat.zero_add]; exact h.frozen (by simp; omega))
  rw [this]
  simp [bytesOf, goInt]
  rfl
theorem At.keyed (w : World) (g : Nat) (K : ByteArray) (hK : K.size ≤ 64) (h : At w g 5 (List.replicate 64 0)) : At (w.setCells g 0 ((bytesOf K).map fun n => Value.int .u8 n)) g 5 (bytesOf K ++ List.replicate (64 - K.size) 0) := by
  have := At.setCells (bytesOf K) (List.replicate 64 0) 0 w h (by rw [bytesOf_length, List.length_replicate]; omega)
  rw [List.take_zero, List.nil_append, Nat.zero_add, bytesOf_length, List.drop_replicate] at this
  exact this
set_option maxHeartbeats 8000000 in
set_option maxRecDepth 100000 in
theorem shmac_walk (key s : ByteArray) (hkey : key.size ≤ 100000) (hs : s.size ≤ 100000) (hb : Nat) (w : World) (hH : Hok w hb) :
    Calls Try.prog 43 #[.pointer (some ⟨hb, 0, none⟩), .string key, .string s] w fun e w' => e = .returned (.string (hmacS key s)) ∧ Below w.heap.size w w' := by
  have hmk := make64
  have hmade := fun (W : World) => At.made W 5 (List.replicate 64 0)
  obtain ⟨Z, hZ⟩ : ∃ Z, Z = u8s (List.replicate 64 0) := ⟨_, rfl⟩
  rw [← hZ] at hmk hmade
  clear hZ
  have hfin : hmacS key s = shaS (strOfNums (padX (keyL key) 92) ++ shaS (strOfNums (padX (keyL key) 54) ++ s)) := rfl
  have hkl := keyL_length key
  have hks := keyB_size key
  have hkL : keyL key = bytesOf (keyB key) ++ List.replicate (64 - (keyB key).size) 0 := rfl
  obtain ⟨kl, hkld⟩ : ∃ kl, kl = keyL key := ⟨_, rfl⟩
  rw [← hkld] at hfin hkl hkL
  clear hkld
  by_cases h64 : 64 < key.size
  · have h64i : (key.size : Int) > 64 := by omega
    have hkB : keyB key = shaS key := if_pos h64
    rw [hkB] at hks hkL
    have hsum0 := sum_walk key (by omega) hb w hH
    obtain ⟨K, hKd⟩ : ∃ K, K = shaS key := ⟨_, rfl⟩
    rw [← hKd] at hks hkL hsum0
    have Hfin := Lib.hid hfin
    have HkL := Lib.hid hkL
    have Hkl := Lib.hid hkl
    clear hKd hkB hfin hkL hkl h64
    go_enter Try.func43, Try.ntmps43
    go_upto_region 3 with (go_at_call 41; refine hsum0.mono ?_; rintro e W ⟨rfl, hB0⟩)
    have hH0 := hH.below hB0
    clear hsum0 hH
    have hA0 := hmade W
    have hcp := copy_key (W.alloc (.cells Z 5)) W.heap.size K hks hA0
    have hA1 := At.keyed (W.alloc (.cells Z 5)) W.heap.size K hks hA0
    rw [← HkL.out] at hA1
    have hB1 := below_sets hB0.size ((bytesOf K).map fun n => Value.int .u8 n) 0 _ (hB0.alloc hB0.size (.cells Z 5))
    have hH1 : Below W.heap.size W ((W.alloc (.cells Z 5)).setCells W.heap.size 0 ((bytesOf K).map fun n => Value.int .u8 n)) := below_sets (Nat.le_refl _) _ _ _ ((Below.refl _ _).alloc (Nat.le_refl _) _)
    obtain ⟨W1, hW1⟩ : ∃ W1, W1 = (W.alloc (.cells Z 5)).setCells W.heap.size 0 ((bytesOf K).map fun n => Value.int .u8 n) := ⟨_, rfl⟩
    rw [← hW1] at hcp hA1 hB1 hH1
    have Hcp := Lib.hid hcp
    clear hW1 hA0 hB0 hcp
    go_upto_region 5 with ((with_reducible refine gate_builtin (b := .copy) (xs := #[.tmp 19, .tmp 20]) (ts := #[75, 9]) rfl ?_); refine wpList_copied _ rfl rfl rfl rfl Hcp.out ?_)
    obtain ⟨gK, hgK⟩ : ∃ gK, gK = W.heap.size := ⟨_, rfl⟩
    rw [← hgK] at hA1 ⊢
    have hAI0 := hmade W1
    have hAK1 := hA1.alloc (.cells Z 5)
    have hH2 := hH1.alloc hH1.size (.cells Z 5)
    have hzI := hH1.size
    have hB2 := hB1.alloc hB1.size (.cells Z 5)
    have hgI := hA1.lt
    have hwI := hB1.size
    obtain ⟨gI, hgId⟩ : ∃ gI, gI = W1.heap.size := ⟨_, rfl⟩
    rw [← hgId] at hAI0 hgI hwI hzI
    clear hgK Hcp hA1 hB1 hH1
    go_upto_region 6 with (fail)
    rw [← hgId]
    obtain ⟨W2, hW2⟩ : ∃ W2, W2 = W1.alloc (.cells Z 5) := ⟨_, rfl⟩
    rw [← hW2] at hAI0 hAK1 hH2 hB2 ⊢
    clear hW2 hgId
    have hAO0 := hmade W2
    have hAI1 := hAI0.alloc (.cells Z 5)
    have hAK2 := hAK1.alloc (.cells Z 5)
    have hH3 := hH2.alloc hH2.size (.cells Z 5)
    have hzO := hH2.size
    have hB3 := hB2.alloc hB2.size (.cells Z 5)
    have hgO := hAI0.lt
    have hwO := hB2.size
    obtain ⟨gO, hgOd⟩ : ∃ gO, gO = W2.heap.size := ⟨_, rfl⟩
    rw [← hgOd] at hAO0 hgO hwO hzO
    clear hAI0 hAK1 hH2 hB2
    go_upto_region 7 with (fail)
    rw [← hgOd]
    obtain ⟨W3, hW3⟩ : ∃ W3, W3 = W2.alloc (.cells Z 5) := ⟨_, rfl⟩
    rw [← hW3] at hAO0 hAI1 hAK2 hH3 hB3 ⊢
    clear hW3 hgOd hmk hmade
    have hkl := Hkl.out
    have hnIK : gK ≠ gI := by omega
    have hnOK : gK ≠ gO := by omega
    have hnOI : gI ≠ gO := by omega
    clear HkL Hkl
    go_wp2
    go_loopw [26] (fun y wx => ∃ i : Nat, i ≤ 64 ∧ y = .int .i64 (i : Int) ∧ At wx gI 5 ((padX kl 54).take i ++ (List.replicate 64 0).drop i ++ []) ∧ At wx gO 5 ((padX kl 92).take i ++ (List.replicate 64 0).drop i ++ []) ∧ At wx gK 5 kl ∧ Below W.heap.size W wx ∧ Below w.heap.size w wx) (fun y _ => 64 - (intOf y).toNat)
    case atStart => exact ⟨0, by omega, rfl, hAI1, hAO0, hAK2, hH3, hB3⟩
    case round =>
      clear hAI1 hAO0 hAK2 hH3 hB3
      obtain ⟨i, hi, rfl, hI, hO, hK, hH, hB⟩ := hrel
      have hli := tab_both 64 (fun i => Go.bits .xor .u8 (rd kl (i : Int)) 54) (List.replicate 64 0) [] (by rw [List.length_replicate]) i hi
      have hlo := tab_both 64 (fun i => Go.bits .xor .u8 (rd kl (i : Int)) 92) (List.replicate 64 0) [] (by rw [List.length_replicate]) i hi
      by_cases hi64 : i < 64
      · have hii : (i : Int) < 64 := by omega
        have ck := hK.cell (i := i) (by omega)
        have ci := hI.cell (i := i) (by show i < _; unfold padX; rw [hli]; simp; omega)
        have fi := hI.frozen (i := i) (by show i < _; unfold padX; rw [hli]; simp; omega)
        have co := hO.cell (i := i) (by show i < _; unfold padX; rw [hlo]; simp; omega)
        have fo := hO.frozen (i := i) (by show i < _; unfold padX; rw [hlo]; simp; omega)
        have si := tab_step 64 (fun i => Go.bits .xor .u8 (rd kl (i : Int)) 54) (List.replicate 64 0) [] (by rw [List.length_replicate]) i hi64
        have so := tab_step 64 (fun i => Go.bits .xor .u8 (rd kl (i : Int)) 92) (List.replicate 64 0) [] (by rw [List.length_replicate]) i hi64
        have nI := At.other (a := ⟨gO, i, none⟩) (v := .int .u8 (Go.bits .xor .u8 (rd kl (i : Int)) 92)) (At.set (x := Go.bits .xor .u8 (rd kl (i : Int)) 54) (i := i) hI) hnOI
        have nO := At.set (x := Go.bits .xor .u8 (rd kl (i : Int)) 92) (i := i) (At.other (a := ⟨gI, i, none⟩) (v := .int .u8 (Go.bits .xor .u8 (rd kl (i : Int)) 54)) hO (fun e => hnOI e.symm))
        have nK := At.other (a := ⟨gO, i, none⟩) (v := .int .u8 (Go.bits .xor .u8 (rd kl (i : Int)) 92)) (At.other (a := ⟨gI, i, none⟩) (v := .int .u8 (Go.bits .xor .u8 (rd kl (i : Int)) 54)) hK hnIK) hnOK
        have nI' : At ((wr.setCell ⟨gI, i, none⟩ (.int .u8 (Go.bits .xor .u8 (rd kl (i : Int)) 54))).setCell ⟨gO, i, none⟩ (.int .u8 (Go.bits .xor .u8 (rd kl (i : Int)) 92))) gI 5 ((padX kl 54).take (i + 1) ++ (List.replicate 64 0).drop (i + 1) ++ []) := by
          unfold padX
          rw [← si]
          exact nI
        have nO' : At ((wr.setCell ⟨gI, i, none⟩ (.int .u8 (Go.bits .xor .u8 (rd kl (i : Int)) 54))).setCell ⟨gO, i, none⟩ (.int .u8 (Go.bits .xor .u8 (rd kl (i : Int)) 92))) gO 5 ((padX kl 92).take (i + 1) ++ (List.replicate 64 0).drop (i + 1) ++ []) := by
          unfold padX
          rw [← so]
          exact nO
        have nH := (hH.setCell (p := ⟨gI, i, none⟩) hzI (.int .u8 (Go.bits .xor .u8 (rd kl (i : Int)) 54))).setCell (p := ⟨gO, i, none⟩) hzO (.int .u8 (Go.bits .xor .u8 (rd kl (i : Int)) 92))
        have nB := (hB.setCell (p := ⟨gI, i, none⟩) hwI (.int .u8 (Go.bits .xor .u8 (rd kl (i : Int)) 54))).setCell (p := ⟨gO, i, none⟩) hwO (.int .u8 (Go.bits .xor .u8 (rd kl (i : Int)) 92))
        obtain ⟨zi, hzi⟩ : ∃ zi, zi = rd ((padX kl 54).take i ++ (List.replicate 64 0).drop i ++ []) (i : Int) := ⟨_, rfl⟩
        obtain ⟨zo, hzo⟩ : ∃ zo, zo = rd ((padX kl 92).take i ++ (List.replicate 64 0).drop i ++ []) (i : Int) := ⟨_, rfl⟩
        rw [← hzi] at ci
        rw [← hzo] at co
        obtain ⟨kx, hkx⟩ : ∃ kx, kx = rd kl (i : Int) := ⟨_, rfl⟩
        rw [← hkx] at ck nI' nO' nK nH nB
        clear hzi hzo hkx si so nI nO hI hO hK hH hB hli hlo
        go_wp2
        exact ⟨⟨i + 1, by omega, by go_num, nI', nO', nK, nH, nB⟩, by simp [intOf]; omega⟩
      · obtain rfl : i = 64 := by omega
        clear hli hlo
        have hO' : At wr gO 5 (padX kl 92) := by
          rw [show (padX kl 92).take 64 ++ (List.replicate 64 0).drop 64 ++ [] = padX kl 92 by rw [List.append_nil, List.drop_of_length_le (by simp), List.append_nil, List.take_of_length_le (by unfold padX; rw [tab_length]; exact Nat.le_refl _)]] at hO
          exact hO
        have hI' : At wr gI 5 (padX kl 54) := by
          rw [show (padX kl 54).take 64 ++ (List.replicate 64 0).drop 64 ++ [] = padX kl 54 by rw [List.append_nil, List.drop_of_length_le (by simp), List.append_nil, List.take_of_length_le (by unfold padX; rw [tab_length]; exact Nat.le_refl _)]] at hI
          exact hI
        have hH' := hH0.below hH
        clear hO hI hK hH
        have hO := hO'
        have hI := hI'
        have hH := hH'
        clear hO' hI' hH'
        obtain ⟨lo, hlo⟩ : ∃ lo, lo = padX kl 92 := ⟨_, rfl⟩
        obtain ⟨li, hli⟩ : ∃ li, li = padX kl 54 := ⟨_, rfl⟩
        have lol : lo.length = 64 := by rw [hlo, padX, tab_length]
        have lil : li.length = 64 := by rw [hli, padX, tab_length]
        rw [← hlo] at hO
        rw [← hli] at hI
        have hf := Hfin.out
        rw [← hlo, ← hli] at hf
        have hbO := fun (wx : World) (h : At wx gO 5 lo) => backB lo 64 lol gO wx h
        have hbI := fun (wx : World) (h : At wx gI 5 li) => backB li 64 lil gI wx h
        have hso : (strOfNums lo).size = 64 := by rw [str_size, lol]
        have hsi : (strOfNums li).size = 64 := by rw [str_size, lil]
        obtain ⟨so, hsod⟩ : ∃ so, so = strOfNums lo := ⟨_, rfl⟩
        obtain ⟨si, hsid⟩ : ∃ si, si = strOfNums li := ⟨_, rfl⟩
        rw [← hsod] at hbO hf hso
        rw [← hsid] at hbI hf hsi
        have hsum1 := fun (wx : World) (h : wx.heap = wr.heap) => sum_walk (si ++ s) (by rw [ByteArray.size_append]; omega) hb wx (hH.of_heap h)
        have h32 := shaS_size (si ++ s)
        obtain ⟨t1, ht1⟩ : ∃ t1, t1 = shaS (si ++ s) := ⟨_, rfl⟩
        rw [← ht1] at hsum1 hf h32
        have hsum2 := fun (wx : World) (h : Hok wx hb) => sum_walk (so ++ t1) (by rw [ByteArray.size_append]; omega) hb wx h
        rw [← hf] at hsum2
        have hsi2 : si.size ≤ 64 := by omega
        have hso2 : so.size ≤ 64 := by omega
        have ht2 : t1.size ≤ 32 := by omega
        have hcat1 : ¬ 9223372036854775807 < si.size + s.size := by omega
        have hcat2 : ¬ 9223372036854775807 < so.size + t1.size := by omega
        clear hlo hli lol lil hsod hsid ht1 hso hsi h32 hf
        go_wp2
        refine start_ (n := 12) (S := (fun W => (convert 75 9 (.slice (some ⟨gO, 0, none⟩) 64 64)).run Try.prog W = .ok (.string so) W ∧ (convert 75 9 (.slice (some ⟨gI, 0, none⟩) 64 64)).run Try.prog W = .ok (.string si) W)) (ds := [11]) #[false, false, false, false, false, false, false, false, false, false, false, false] (by kernel_rfl) rfl rfl ⟨hbO _ hO, hbI _ hI⟩ (fun hHeld => ?_)
        refine pure_ (i := 0) (N := some 42) (v := ?_) (a' := ?_) #[true, false, false, false, false, false, false, false, false, false, false, false] rfl rfl (by kernel_rfl) (fun _ _ _ h => h) (Or.inl ⟨by rfl, ?_⟩) ?_ ?_
        rotate_left
        · intro w'; go_simp; with_reducible rfl
        rotate_left
        · simp only [Act.put, List.setIfInBounds_toArray, List.set_cons_zero, List.set_cons_succ, i64_w, i32_w]; rfl
        refine pure_ (i := 1) (N := some 43) (v := ?_) (a' := ?_) #[true, true, false, false, false, false, false, false, false, false, false, false] rfl rfl (by kernel_rfl) (fun _ _ _ h => h) (Or.inl ⟨by rfl, ?_⟩) ?_ ?_
        rotate_left
        · intro w'; go_simp; with_reducible rfl
        rotate_left
        · simp only [Act.put, List.setIfInBounds_toArray, List.set_cons_zero, List.set_cons_succ, i64_w, i32_w]; rfl
        refine take_ (i := 2) (N := some 44) (v := ?_) (a' := ?_) #[true, true, true, false, false, false, false, false, false, false, false, false] rfl rfl (by kernel_rfl) (fun _ _ _ h => h) (Or.inl ⟨by rfl, ?_⟩) hHeld ?_ ?_
        rotate_left
        · intro w' hs_; go_split_ands; go_simp; with_reducible rfl
        rotate_left
        · simp only [Act.put, List.setIfInBounds_toArray, List.set_cons_zero, List.set_cons_succ, i64_w, i32_w]; rfl
        refine pure_ (i := 3) (N := some 45) (v := ?_) (a' := ?_) #[true, true, true, true, false, false, false, false, false, false, false, false] rfl rfl (by kernel_rfl) (fun _ _ _ h => h) (Or.inl ⟨by rfl, ?_⟩) ?_ ?_
        rotate_left
        · intro w'; go_simp; with_reducible rfl
        rotate_left
        · simp only [Act.put, List.setIfInBounds_toArray, List.set_cons_zero, List.set_cons_succ, i64_w, i32_w]; rfl
        refine pure_ (i := 4) (N := some 46) (v := ?_) (a' := ?_) #[true, true, true, true, true, false, false, false, false, false, false, false] rfl rfl (by kernel_rfl) (fun _ _ _ h => h) (Or.inl ⟨by rfl, ?_⟩) ?_ ?_
        rotate_left
        · intro w'; go_simp; with_reducible rfl
        rotate_left
        · simp only [Act.put, List.setIfInBounds_toArray, List.set_cons_zero, List.set_cons_succ, i64_w, i32_w]; rfl
        refine take_ (i := 5) (N := some 47) (v := ?_) (a' := ?_) #[true, true, true, true, true, true, false, false, false, false, false, false] rfl rfl (by kernel_rfl) (fun _ _ _ h => h) (Or.inl ⟨by rfl, ?_⟩) hHeld ?_ ?_
        rotate_left
        · intro w' hs_; go_split_ands; go_simp; with_reducible rfl
        rotate_left
        · simp only [Act.put, List.setIfInBounds_toArray, List.set_cons_zero, List.set_cons_succ, i64_w, i32_w]; rfl
        refine pure_ (i := 6) (N := some 48) (v := ?_) (a' := ?_) #[true, true, true, true, true, true, true, false, false, false, false, false] rfl rfl (by kernel_rfl) (fun _ _ _ h => h) (Or.inl ⟨by rfl, ?_⟩) ?_ ?_
        rotate_left
        · intro w'; go_simp; with_reducible rfl
        rotate_left
        · simp only [Act.put, List.setIfInBounds_toArray, List.set_cons_zero, List.set_cons_succ, i64_w, i32_w]; rfl
        refine pure_ (i := 7) (N := some 49) (v := ?_) (a' := ?_) #[true, true, true, true, true, true, true, true, false, false, false, false] rfl rfl (by kernel_rfl) (fun _ _ _ h => h) (Or.inl ⟨by rfl, ?_⟩) ?_ ?_
        rotate_left
        · intro w'; go_simp; with_reducible rfl
        rotate_left
        · simp only [Act.put, List.setIfInBounds_toArray, List.set_cons_zero, List.set_cons_succ, i64_w, i32_w]; rfl
        refine one_ (i := 8) (N := some 50) #[true, true, true, true, true, true, true, true, true, false, false, false] rfl rfl (by kernel_rfl) (by decide) (fun K hK => ?_)
        go_simp
        go_at_call 41
        refine (hsum1 wr.drew rfl).mono ?_
        rintro e w2 ⟨rfl, hb2⟩
        have hO' := At.below (show At wr.drew gO 5 lo from hO) hb2 hO.lt
        have hI' := At.below (show At wr.drew gI 5 li from hI) hb2 hI.lt
        have hH' := Hok.below (show Hok wr.drew hb from hH.of_heap rfl) hb2
        have hB' := Below.trans (show Below w.heap.size w wr.drew from below_drewN' hB 1) (hb2.mono hB.size)
        clear hO hI hH hB hb2
        have hO := hO'
        have hI := hI'
        have hH := hH'
        have hB := hB'
        clear hO' hI' hH' hB'
        refine hK.out _ _ (⟨hbO _ hO, hbI _ hI⟩) (fun hHeld => ?_)
        clear hK K
        refine pure_ (i := 9) (N := some 51) (v := ?_) (a' := ?_) #[true, true, true, true, true, true, true, true, true, true, false, false] rfl rfl (by kernel_rfl) (fun _ _ _ h => h) (Or.inl ⟨by rfl, ?_⟩) ?_ ?_
        rotate_left
        · intro w'; go_simp; with_reducible rfl
        rotate_left
        · simp only [Act.put, List.setIfInBounds_toArray, List.set_cons_zero, List.set_cons_succ, i64_w, i32_w]; rfl
        refine one_ (i := 10) (N := some 52) #[true, true, true, true, true, true, true, true, true, true, true, false] rfl rfl (by kernel_rfl) (by decide) (fun K hK => ?_)
        go_simp
        go_at_call 41
        refine (hsum2 w2 hH).mono ?_
        rintro e w3 ⟨rfl, hb2⟩
        have hO' := At.below (show At w2 gO 5 lo from hO) hb2 hO.lt
        have hI' := At.below (show At w2 gI 5 li from hI) hb2 hI.lt
        have hH' := Hok.below (show Hok w2 hb from hH) hb2
        have hB' := Below.trans (show Below w.heap.size w w2 from hB) (hb2.mono hB.size)
        clear hO hI hH hB hb2
        have hO := hO'
        have hI := hI'
        have hH := hH'
        have hB := hB'
        clear hO' hI' hH' hB'
        refine hK.out _ _ (⟨hbO _ hO, hbI _ hI⟩) (fun hHeld => ?_)
        clear hK K
        refine last_ (i := 11) (N := some 6) #[true, true, true, true, true, true, true, true, true, true, true, true] rfl rfl (by kernel_rfl) (by decide) (fun K hK => ?_)
        go_simp
        refine hK.out _ _ ?_
        clear hK K
        refine done_ (by kernel_rfl) ?_
        go_wp2
        go_ret
        first | exact ⟨rfl, hB⟩ | (have hw := HW.out; rw [← hw] at hB; exact ⟨rfl, hB⟩)
  · have h64i : ¬ (key.size : Int) > 64 := by omega
    have hkB : keyB key = key := if_neg h64
    rw [hkB] at hks hkL
    have Hfin := Lib.hid hfin
    have HkL := Lib.hid hkL
    have Hkl := Lib.hid hkl
    clear hkB hfin hkL hkl h64
    generalize key = K at *
    obtain ⟨W, hW⟩ : ∃ W, W = w := ⟨_, rfl⟩
    have hB0 : Below w.heap.size w W := by rw [hW]; exact Below.refl _ _
    have hH0 : Hok W hb := by rw [hW]; exact hH
    rw [← hW]
    have HW := Lib.hid hW
    clear hH hW
    go_enter Try.func43, Try.ntmps43
    go_upto_region 3 with (fail)
    have hA0 := hmade W
    have hcp := copy_key (W.alloc (.cells Z 5)) W.heap.size K hks hA0
    have hA1 := At.keyed (W.alloc (.cells Z 5)) W.heap.size K hks hA0
    rw [← HkL.out] at hA1
    have hB1 := below_sets hB0.size ((bytesOf K).map fun n => Value.int .u8 n) 0 _ (hB0.alloc hB0.size (.cells Z 5))
    have hH1 : Below W.heap.size W ((W.alloc (.cells Z 5)).setCells W.heap.size 0 ((bytesOf K).map fun n => Value.int .u8 n)) := below_sets (Nat.le_refl _) _ _ _ ((Below.refl _ _).alloc (Nat.le_refl _) _)
    obtain ⟨W1, hW1⟩ : ∃ W1, W1 = (W.alloc (.cells Z 5)).setCells W.heap.size 0 ((bytesOf K).map fun n => Value.int .u8 n) := ⟨_, rfl⟩
    rw [← hW1] at hcp hA1 hB1 hH1
    have Hcp := Lib.hid hcp
    clear hW1 hA0 hB0 hcp
    go_upto_region 5 with ((with_reducible refine gate_builtin (b := .copy) (xs := #[.tmp 19, .tmp 20]) (ts := #[75, 9]) rfl ?_); refine wpList_copied _ rfl rfl rfl rfl Hcp.out ?_)
    obtain ⟨gK, hgK⟩ : ∃ gK, gK = W.heap.size := ⟨_, rfl⟩
    rw [← hgK] at hA1 ⊢
    have hAI0 := hmade W1
    have hAK1 := hA1.alloc (.cells Z 5)
    have hH2 := hH1.alloc hH1.size (.cells Z 5)
    have hzI := hH1.size
    have hB2 := hB1.alloc hB1.size (.cells Z 5)
    have hgI := hA1.lt
    have hwI := hB1.size
    obtain ⟨gI, hgId⟩ : ∃ gI, gI = W1.heap.size := ⟨_, rfl⟩
    rw [← hgId] at hAI0 hgI hwI hzI
    clear hgK Hcp hA1 hB1 hH1
    go_upto_region 6 with (fail)
    rw [← hgId]
    obtain ⟨W2, hW2⟩ : ∃ W2, W2 = W1.alloc (.cells Z 5) := ⟨_, rfl⟩
    rw [← hW2] at hAI0 hAK1 hH2 hB2 ⊢
    clear hW2 hgId
    have hAO0 := hmade W2
    have hAI1 := hAI0.alloc (.cells Z 5)
    have hAK2 := hAK1.alloc (.cells Z 5)
    have hH3 := hH2.alloc hH2.size (.cells Z 5)
    have hzO := hH2.size
    have hB3 := hB2.alloc hB2.size (.cells Z 5)
    have hgO := hAI0.lt
    have hwO := hB2.size
    obtain ⟨gO, hgOd⟩ : ∃ gO, gO = W2.heap.size := ⟨_, rfl⟩
    rw [← hgOd] at hAO0 hgO hwO hzO
    clear hAI0 hAK1 hH2 hB2
    go_upto_region 7 with (fail)
    rw [← hgOd]
    obtain ⟨W3, hW3⟩ : ∃ W3, W3 = W2.alloc (.cells Z 5) := ⟨_, rfl⟩
    rw [← hW3] at hAO0 hAI1 hAK2 hH3 hB3 ⊢
    clear hW3 hgOd hmk hmade
    have hkl := Hkl.out
    have hnIK : gK ≠ gI := by omega
    have hnOK : gK ≠ gO := by omega
    have hnOI : gI ≠ gO := by omega
    clear HkL Hkl
    go_wp2
    go_loopw [26] (fun y wx => ∃ i : Nat, i ≤ 64 ∧ y = .int .i64 (i : Int) ∧ At wx gI 5 ((padX kl 54).take i ++ (List.replicate 64 0).drop i ++ []) ∧ At wx gO 5 ((padX kl 92).take i ++ (List.replicate 64 0).drop i ++ []) ∧ At wx gK 5 kl ∧ Below W.heap.size W wx ∧ Below w.heap.size w wx) (fun y _ => 64 - (intOf y).toNat)
    case atStart => exact ⟨0, by omega, rfl, hAI1, hAO0, hAK2, hH3, hB3⟩
    case round =>
      clear hAI1 hAO0 hAK2 hH3 hB3
      obtain ⟨i, hi, rfl, hI, hO, hK, hH, hB⟩ := hrel
      have hli := tab_both 64 (fun i => Go.bits .xor .u8 (rd kl (i : Int)) 54) (List.replicate 64 0) [] (by rw [List.length_replicate]) i hi
      have hlo := tab_both 64 (fun i => Go.bits .xor .u8 (rd kl (i : Int)) 92) (List.replicate 64 0) [] (by rw [List.length_replicate]) i hi
      by_cases hi64 : i < 64
      · have hii : (i : Int) < 64 := by omega
        have ck := hK.cell (i := i) (by omega)
        have ci := hI.cell (i := i) (by show i < _; unfold padX; rw [hli]; simp; omega)
        have fi := hI.frozen (i := i) (by show i < _; unfold padX; rw [hli]; simp; omega)
        have co := hO.cell (i := i) (by show i < _; unfold padX; rw [hlo]; simp; omega)
        have fo := hO.frozen (i := i) (by show i < _; unfold padX; rw [hlo]; simp; omega)
        have si := tab_step 64 (fun i => Go.bits .xor .u8 (rd kl (i : Int)) 54) (List.replicate 64 0) [] (by rw [List.length_replicate]) i hi64
        have so := tab_step 64 (fun i => Go.bits .xor .u8 (rd kl (i : Int)) 92) (List.replicate 64 0) [] (by rw [List.length_replicate]) i hi64
        have nI := At.other (a := ⟨gO, i, none⟩) (v := .int .u8 (Go.bits .xor .u8 (rd kl (i : Int)) 92)) (At.set (x := Go.bits .xor .u8 (rd kl (i : Int)) 54) (i := i) hI) hnOI
        have nO := At.set (x := Go.bits .xor .u8 (rd kl (i : Int)) 92) (i := i) (At.other (a := ⟨gI, i, none⟩) (v := .int .u8 (Go.bits .xor .u8 (rd kl (i : Int)) 54)) hO (fun e => hnOI e.symm))
        have nK := At.other (a := ⟨gO, i, none⟩) (v := .int .u8 (Go.bits .xor .u8 (rd kl (i : Int)) 92)) (At.other (a := ⟨gI, i, none⟩) (v := .int .u8 (Go.bits .xor .u8 (rd kl (i : Int)) 54)) hK hnIK) hnOK
        have nI' : At ((wr.setCell ⟨gI, i, none⟩ (.int .u8 (Go.bits .xor .u8 (rd kl (i : Int)) 54))).setCell ⟨gO, i, none⟩ (.int .u8 (Go.bits .xor .u8 (rd kl (i : Int)) 92))) gI 5 ((padX kl 54).take (i + 1) ++ (List.replicate 64 0).drop (i + 1) ++ []) := by
          unfold padX
          rw [← si]
          exact nI
        have nO' : At ((wr.setCell ⟨gI, i, none⟩ (.int .u8 (Go.bits .xor .u8 (rd kl (i : Int)) 54))).setCell ⟨gO, i, none⟩ (.int .u8 (Go.bits .xor .u8 (rd kl (i : Int)) 92))) gO 5 ((padX kl 92).take (i + 1) ++ (List.replicate 64 0).drop (i + 1) ++ []) := by
          unfold padX
          rw [← so]
          exact nO
        have nH := (hH.setCell (p := ⟨gI, i, none⟩) hzI (.int .u8 (Go.bits .xor .u8 (rd kl (i : Int)) 54))).setCell (p := ⟨gO, i, none⟩) hzO (.int .u8 (Go.bits .xor .u8 (rd kl (i : Int)) 92))
        have nB := (hB.setCell (p := ⟨gI, i, none⟩) hwI (.int .u8 (Go.bits .xor .u8 (rd kl (i : Int)) 54))).setCell (p := ⟨gO, i, none⟩) hwO (.int .u8 (Go.bits .xor .u8 (rd kl (i : Int)) 92))
        obtain ⟨zi, hzi⟩ : ∃ zi, zi = rd ((padX kl 54).take i ++ (List.replicate 64 0).drop i ++ []) (i : Int) := ⟨_, rfl⟩
        obtain ⟨zo, hzo⟩ : ∃ zo, zo = rd ((padX kl 92).take i ++ (List.replicate 64 0).drop i ++ []) (i : Int) := ⟨_, rfl⟩
        rw [← hzi] at ci
        rw [← hzo] at co
        obtain ⟨kx, hkx⟩ : ∃ kx, kx = rd kl (i : Int) := ⟨_, rfl⟩
        rw [← hkx] at ck nI' nO' nK nH nB
        clear hzi hzo hkx si so nI nO hI hO hK hH hB hli hlo
        go_wp2
        exact ⟨⟨i + 1, by omega, by go_num, nI', nO', nK, nH, nB⟩, by simp [intOf]; omega⟩
      · obtain rfl : i = 64 := by omega
        clear hli hlo
        have hO' : At wr gO 5 (padX kl 92) := by
          rw [show (padX kl 92).take 64 ++ (List.replicate 64 0).drop 64 ++ [] = padX kl 92 by rw [List.append_nil, List.drop_of_length_le (by simp), List.append_nil, List.take_of_length_le (by unfold padX; rw [tab_length]; exact Nat.le_refl _)]] at hO
          exact hO
        have hI' : At wr gI 5 (padX kl 54) := by
          rw [show (padX kl 54).take 64 ++ (List.replicate 64 0).drop 64 ++ [] = padX kl 54 by rw [List.append_nil, List.drop_of_length_le (by simp), List.append_nil, List.take_of_length_le (by unfold padX; rw [tab_length]; exact Nat.le_refl _)]] at hI
          exact hI
        have hH' := hH0.below hH
        clear hO hI hK hH
        have hO := hO'
        have hI := hI'
        have hH := hH'
        clear hO' hI' hH'
        obtain ⟨lo, hlo⟩ : ∃ lo, lo = padX kl 92 := ⟨_, rfl⟩
        obtain ⟨li, hli⟩ : ∃ li, li = padX kl 54 := ⟨_, rfl⟩
        have lol : lo.length = 64 := by rw [hlo, padX, tab_length]
        have lil : li.length = 64 := by rw [hli, padX, tab_length]
        rw [← hlo] at hO
        rw [← hli] at hI
        have hf := Hfin.out
        rw [← hlo, ← hli] at hf
        have hbO := fun (wx : World) (h : At wx gO 5 lo) => backB lo 64 lol gO wx h
        have hbI := fun (wx : World) (h : At wx gI 5 li) => backB li 64 lil gI wx h
        have hso : (strOfNums lo).size = 64 := by rw [str_size, lol]
        have hsi : (strOfNums li).size = 64 := by rw [str_size, lil]
        obtain ⟨so, hsod⟩ : ∃ so, so = strOfNums lo := ⟨_, rfl⟩
        obtain ⟨si, hsid⟩ : ∃ si, si = strOfNums li := ⟨_, rfl⟩
        rw [← hsod] at hbO hf hso
        rw [← hsid] at hbI hf hsi
        have hsum1 := fun (wx : World) (h : wx.heap = wr.heap) => sum_walk (si ++ s) (by rw [ByteArray.size_append]; omega) hb wx (hH.of_heap h)
        have h32 := shaS_size (si ++ s)
        obtain ⟨t1, ht1⟩ : ∃ t1, t1 = shaS (si ++ s) := ⟨_, rfl⟩
        rw [← ht1] at hsum1 hf h32
        have hsum2 := fun (wx : World) (h : Hok wx hb) => sum_walk (so ++ t1) (by rw [ByteArray.size_append]; omega) hb wx h
        rw [← hf] at hsum2
        have hsi2 : si.size ≤ 64 := by omega
        have hso2 : so.size ≤ 64 := by omega
        have ht2 : t1.size ≤ 32 := by omega
        have hcat1 : ¬ 9223372036854775807 < si.size + s.size := by omega
        have hcat2 : ¬ 9223372036854775807 < so.size + t1.size := by omega
        clear hlo hli lol lil hsod hsid ht1 hso hsi h32 hf
        go_wp2
        refine start_ (n := 12) (S := (fun W => (convert 75 9 (.slice (some ⟨gO, 0, none⟩) 64 64)).run Try.prog W = .ok (.string so) W ∧ (convert 75 9 (.slice (some ⟨gI, 0, none⟩) 64 64)).run Try.prog W = .ok (.string si) W)) (ds := [11]) #[false, false, false, false, false, false, false, false, false, false, false, false] (by kernel_rfl) rfl rfl ⟨hbO _ hO, hbI _ hI⟩ (fun hHeld => ?_)
        refine pure_ (i := 0) (N := some 42) (v := ?_) (a' := ?_) #[true, false, false, false, false, false, false, false, false, false, false, false] rfl rfl (by kernel_rfl) (fun _ _ _ h => h) (Or.inl ⟨by rfl, ?_⟩) ?_ ?_
        rotate_left
        · intro w'; go_simp; with_reducible rfl
        rotate_left
        · simp only [Act.put, List.setIfInBounds_toArray, List.set_cons_zero, List.set_cons_succ, i64_w, i32_w]; rfl
        refine pure_ (i := 1) (N := some 43) (v := ?_) (a' := ?_) #[true, true, false, false, false, false, false, false, false, false, false, false] rfl rfl (by kernel_rfl) (fun _ _ _ h => h) (Or.inl ⟨by rfl, ?_⟩) ?_ ?_
        rotate_left
        · intro w'; go_simp; with_reducible rfl
        rotate_left
        · simp only [Act.put, List.setIfInBounds_toArray, List.set_cons_zero, List.set_cons_succ, i64_w, i32_w]; rfl
        refine take_ (i := 2) (N := some 44) (v := ?_) (a' := ?_) #[true, true, true, false, false, false, false, false, false, false, false, false] rfl rfl (by kernel_rfl) (fun _ _ _ h => h) (Or.inl ⟨by rfl, ?_⟩) hHeld ?_ ?_
        rotate_left
        · intro w' hs_; go_split_ands; go_simp; with_reducible rfl
        rotate_left
        · simp only [Act.put, List.setIfInBounds_toArray, List.set_cons_zero, List.set_cons_succ, i64_w, i32_w]; rfl
        refine pure_ (i := 3) (N := some 45) (v := ?_) (a' := ?_) #[true, true, true, true, false, false, false, false, false, false, false, false] rfl rfl (by kernel_rfl) (fun _ _ _ h => h) (Or.inl ⟨by rfl, ?_⟩) ?_ ?_
        rotate_left
        · intro w'; go_simp; with_reducible rfl
        rotate_left
        · simp only [Act.put, List.setIfInBounds_toArray, List.set_cons_zero, List.set_cons_succ, i64_w, i32_w]; rfl
        refine pure_ (i := 4) (N := some 46) (v := ?_) (a' := ?_) #[true, true, true, true, true, false, false, false, false, false, false, false] rfl rfl (by kernel_rfl) (fun _ _ _ h => h) (Or.inl ⟨by rfl, ?_⟩) ?_ ?_
        rotate_left
        · intro w'; go_simp; with_reducible rfl
        rotate_left
        · simp only [Act.put, List.setIfInBounds_toArray, List.set_cons_zero, List.set_cons_succ, i64_w, i32_w]; rfl
        refine take_ (i := 5) (N := some 47) (v := ?_) (a' := ?_) #[true, true, true, true, true, true, false, false, false, false, false, false] rfl rfl (by kernel_rfl) (fun _ _ _ h => h) (Or.inl ⟨by rfl, ?_⟩) hHeld ?_ ?_
        rotate_left
        · intro w' hs_; go_split_ands; go_simp; with_reducible rfl
        rotate_left
        · simp only [Act.put, List.setIfInBounds_toArray, List.set_cons_zero, List.set_cons_succ, i64_w, i32_w]; rfl
        refine pure_ (i := 6) (N := some 48) (v := ?_) (a' := ?_) #[true, true, true, true, true, true, true, false, false, false, false, false] rfl rfl (by kernel_rfl) (fun _ _ _ h => h) (Or.inl ⟨by rfl, ?_⟩) ?_ ?_
        rotate_left
        · intro w'; go_simp; with_reducible rfl
        rotate_left
        · simp only [Act.put, List.setIfInBounds_toArray, List.set_cons_zero, List.set_cons_succ, i64_w, i32_w]; rfl
        refine pure_ (i := 7) (N := some 49) (v := ?_) (a' := ?_) #[true, true, true, true, true, true, true, true, false, false, false, false] rfl rfl (by kernel_rfl) (fun _ _ _ h => h) (Or.inl ⟨by rfl, ?_⟩) ?_ ?_
        rotate_left
        · intro w'; go_simp; with_reducible rfl
        rotate_left
        · simp only [Act.put, List.setIfInBounds_toArray, List.set_cons_zero, List.set_cons_succ, i64_w, i32_w]; rfl
        refine one_ (i := 8) (N := some 50) #[true, true, true, true, true, true, true, true, true, false, false, false] rfl rfl (by kernel_rfl) (by decide) (fun K hK => ?_)
        go_simp
        go_at_call 41
        refine (hsum1 wr.drew rfl).mono ?_
        rintro e w2 ⟨rfl, hb2⟩
        have hO' := At.below (show At wr.drew gO 5 lo from hO) hb2 hO.lt
        have hI' := At.below (show At wr.drew gI 5 li from hI) hb2 hI.lt
        have hH' := Hok.below (show Hok wr.drew hb from hH.of_heap rfl) hb2
        have hB' := Below.trans (show Below w.heap.size w wr.drew from below_drewN' hB 1) (hb2.mono hB.size)
        clear hO hI hH hB hb2
        have hO := hO'
        have hI := hI'
        have hH := hH'
        have hB := hB'
        clear hO' hI' hH' hB'
        refine hK.out _ _ (⟨hbO _ hO, hbI _ hI⟩) (fun hHeld => ?_)
        clear hK K
        refine pure_ (i := 9) (N := some 51) (v := ?_) (a' := ?_) #[true, true, true, true, true, true, true, true, true, true, false, false] rfl rfl (by kernel_rfl) (fun _ _ _ h => h) (Or.inl ⟨by rfl, ?_⟩) ?_ ?_
        rotate_left
        · intro w'; go_simp; with_reducible rfl
        rotate_left
        · simp only [Act.put, List.setIfInBounds_toArray, List.set_cons_zero, List.set_cons_succ, i64_w, i32_w]; rfl
        refine one_ (i := 10) (N := some 52) #[true, true, true, true, true, true, true, true, true, true, true, false] rfl rfl (by kernel_rfl) (by decide) (fun K hK => ?_)
        go_simp
        go_at_call 41
        refine (hsum2 w2 hH).mono ?_
        rintro e w3 ⟨rfl, hb2⟩
        have hO' := At.below (show At w2 gO 5 lo from hO) hb2 hO.lt
        have hI' := At.below (show At w2 gI 5 li from hI) hb2 hI.lt
        have hH' := Hok.below (show Hok w2 hb from hH) hb2
        have hB' := Below.trans (show Below w.heap.size w w2 from hB) (hb2.mono hB.size)
        clear hO hI hH hB hb2
        have hO := hO'
        have hI := hI'
        have hH := hH'
        have hB := hB'
        clear hO' hI' hH' hB'
        refine hK.out _ _ (⟨hbO _ hO, hbI _ hI⟩) (fun hHeld => ?_)
        clear hK K
        refine last_ (i := 11) (N := some 6) #[true, true, true, true, true, true, true, true, true, true, true, true] rfl rfl (by kernel_rfl) (by decide) (fun K hK => ?_)
        go_simp
        refine hK.out _ _ ?_
        clear hK K
        refine done_ (by kernel_rfl) ?_
        go_wp2
        go_ret
        first | exact ⟨rfl, hB⟩ | (have hw := HW.out; rw [← hw] at hB; exact ⟨rfl, hB⟩)
end Go.Proofs.YtnkakkfjfjeaeaaV.Aes
