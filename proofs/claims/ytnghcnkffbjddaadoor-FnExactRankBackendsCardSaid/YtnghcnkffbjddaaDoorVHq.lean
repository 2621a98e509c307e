/- The hash, as plain functions over numbers and lists; that the reference's printed functions tell the same. -/
import Derived.Test.YtnghcnkffbjddaaDoorVHn
import Derived.Test.YtnghcnkffbjddaaDoorPSpecRx1
import Derived.Test.YtnghcnkffbjddaaDoorPSpecRx2
import Derived.Test.YtnghcnkffbjddaaDoorPSpecRx3
import Derived.Test.YtnghcnkffbjddaaDoorPSpecRx4
namespace Go.Proofs.YtnghcnkffbjddaaDoorV.Aes
open Go.RowKit Go.Proofs.YtnghcnkffbjddaaDoorV.PrintWords Go.Proofs.YtnghcnkffbjddaaDoorV.PrintLast Go.Proofs.YtnghcnkffbjddaaDoorV.PrintMore Go.Proofs.YtnghcnkffbjddaaDoorV.Mem
set_option linter.unusedVariables false
set_option linter.unusedSimpArgs false

open Go.Proofs.YtnghcnkffbjddaaDoor.PSpecR
/-- A word turned right. -/
def ror (x : Int) (n : Nat) : Int := Go.bits .or .u32 (x / 2 ^ n) (x * 2 ^ (32 - n) % 4294967296)
def sg0 (x : Int) : Int := Go.bits .xor .u32 (Go.bits .xor .u32 (ror x 7) (ror x 18)) (x / 8)
def sg1 (x : Int) : Int := Go.bits .xor .u32 (Go.bits .xor .u32 (ror x 17) (ror x 19)) (x / 1024)
def Sg0 (x : Int) : Int := Go.bits .xor .u32 (Go.bits .xor .u32 (ror x 2) (ror x 13)) (ror x 22)
def Sg1 (x : Int) : Int := Go.bits .xor .u32 (Go.bits .xor .u32 (ror x 6) (ror x 11)) (ror x 25)
def chF (e f g : Int) : Int := Go.bits .xor .u32 (Go.bits .and .u32 e f) (Go.bits .and .u32 (Go.bits .xor .u32 IntKind.u32.max e) g)
def majF (a b c : Int) : Int := Go.bits .xor .u32 (Go.bits .xor .u32 (Go.bits .and .u32 a b) (Go.bits .and .u32 a c)) (Go.bits .and .u32 b c)
/-- The words of a block, so many of them. -/
def nextW (b : ByteArray) (w : List Int) (i : Nat) : Int :=
  if i < 16 then bigN (bytesOf (b.extract (4 * i) (4 * i + 4))) 0 % 4294967296
  else (((rd w ((i - 16 : Nat) : Int) + sg0 (rd w ((i - 15 : Nat) : Int))) % 4294967296 + rd w ((i - 7 : Nat) : Int)) % 4294967296 + sg1 (rd w ((i - 2 : Nat) : Int))) % 4294967296
def schedN (b : ByteArray) : Nat → List Int
  | 0 => []
  | i + 1 => schedN b i ++ [nextW b (schedN b i) i]
theorem schedN_length (b : ByteArray) : ∀ i, (schedN b i).length = i
  | 0 => rfl
  | i + 1 => by rw [schedN, List.length_append, schedN_length b i]; rfl
def T1 (s : List Int) (k x : Int) : Int := ((((rd s 7 + Sg1 (rd s 4)) % 4294967296 + chF (rd s 4) (rd s 5) (rd s 6)) % 4294967296 + k) % 4294967296 + x) % 4294967296
def T2 (s : List Int) : Int := (Sg0 (rd s 0) + majF (rd s 0) (rd s 1) (rd s 2)) % 4294967296
def rnd (s : List Int) (k x : Int) : List Int := [(T1 s k x + T2 s) % 4294967296, rd s 0, rd s 1, rd s 2, (rd s 3 + T1 s k x) % 4294967296, rd s 4, rd s 5, rd s 6]
def rndN (ks ws s : List Int) : Nat → List Int
  | 0 => s
  | i + 1 => rnd (rndN ks ws s i) (rd ks (i : Int)) (rd ws (i : Int))
theorem rndN_length (ks ws s : List Int) (h : s.length = 8) : ∀ i, (rndN ks ws s i).length = 8
  | 0 => h
  | i + 1 => rfl
def n64 : Nat := 64
/-- A state behind a block. -/
def hashL (st ks : List Int) (b : ByteArray) : List Int := tab 8 fun i => (rd (rndN ks (schedN b n64) st n64) (i : Int) + rd st (i : Int)) % 4294967296
theorem hashL_length (st ks : List Int) (b : ByteArray) : (hashL st ks b).length = 8 := tab_length _ _
theorem ev_right (x : Int) (n : Nat) (h : n ≤ 32) : spec_l4Right.f x (n : Int) = some (ror x n) := by
  unfold spec_l4Right.f
  have e : IntKind.u64.wrap (32 - (n : Int)) = ((32 - n : Nat) : Int) := by rw [wrap_u64_in _ (by omega) (by omega)]; omega
  rw [e, if_pos (by omega), if_pos (by omega)]
  unfold shr shl ror
  rw [Int.toNat_natCast, Int.toNat_natCast, show IntKind.u32.bits = 32 from rfl, Nat.min_eq_left h, Nat.min_eq_left (by omega), u32_mod]
theorem ev_right7 (x : Int) : spec_l4Right.f x 7 = some (ror x 7) := ev_right x 7 (by decide)
theorem ev_right18 (x : Int) : spec_l4Right.f x 18 = some (ror x 18) := ev_right x 18 (by decide)
theorem ev_right17 (x : Int) : spec_l4Right.f x 17 = some (ror x 17) := ev_right x 17 (by decide)
theorem ev_right19 (x : Int) : spec_l4Right.f x 19 = some (ror x 19) := ev_right x 19 (by decide)
theorem ev_right2 (x : Int) : spec_l4Right.f x 2 = some (ror x 2) := ev_right x 2 (by decide)
theorem ev_right13 (x : Int) : spec_l4Right.f x 13 = some (ror x 13) := ev_right x 13 (by decide)
theorem ev_right22 (x : Int) : spec_l4Right.f x 22 = some (ror x 22) := ev_right x 22 (by decide)
theorem ev_right6 (x : Int) : spec_l4Right.f x 6 = some (ror x 6) := ev_right x 6 (by decide)
theorem ev_right11 (x : Int) : spec_l4Right.f x 11 = some (ror x 11) := ev_right x 11 (by decide)
theorem ev_right25 (x : Int) : spec_l4Right.f x 25 = some (ror x 25) := ev_right x 25 (by decide)
theorem round_l2 (st s : List Int) (hst : st.length = 8) (hs : s.length = 8) (z : Nat → Int) (hz : z = fun (i : Nat) => (rd s (i : Int) + rd st (i : Int)) % 4294967296) : ∀ d i : Nat, i + d = 8 →
    Ev (fun k => spec_l4Round.l2 k st ((tab 8 z).take i ++ s.drop i ++ []) 8 (i : Int)) (tab 8 z)
  | 0, i, h => by
    obtain rfl : i = 8 := by omega
    refine Ev.step (f := fun _ => some (tab 8 z)) (fun k => ?_) (Ev.now _)
    simp only [spec_l4Round.l2]
    rw [if_neg (by omega), tab_end _ _ _ _ hs, List.append_nil]
  | d + 1, i, h => by
    have hl : ((tab 8 z).take i ++ s.drop i ++ []).length = 8 := tab_both 8 z s [] hs i (by omega)
    refine Ev.step (fun k => ?_) (round_l2 st s hst hs z hz d (i + 1) (by omega))
    simp only [spec_l4Round.l2]
    rw [if_pos (by omega), if_pos (by omega), if_pos (by rw [hl]; omega), if_pos (by omega), wrapS ((i : Int) + 1) ((i + 1 : Nat) : Int) (by omega) (by omega) (by omega), Int.toNat_natCast, tab_rest 8 z s [] hs i i (Nat.le_refl _) (by omega)]
    have hzi : (rd s (i : Int) + rd st (i : Int)) % 4294967296 = z i := by rw [hz]
    rw [hzi, tab_step 8 z s [] hs i (by omega)]
theorem round_l1 (st ks ws : List Int) (hst : st.length = 8) (hk : ks.length = 64) (hw : ws.length = 64) (R : List Int) (hR : Ev (fun k => spec_l4Round.l2 k st (rndN ks ws st n64) 8 0) R) : ∀ d i : Nat, i + d = 64 →
    Ev (fun k => spec_l4Round.l1 k st ks ws (rndN ks ws st i) (i : Int)) R
  | 0, i, h => by
    obtain rfl : i = n64 := by show i = 64; omega
    have hl := rndN_length ks ws st hst n64
    refine Ev.step (fun k => ?_) hR
    simp only [spec_l4Round.l1]
    rw [if_neg (by show ¬ ((64 : Nat) : Int) < 64; omega), hl]
    rfl
  | d + 1, i, h => by
    have hl := rndN_length ks ws st hst i
    refine Ev.step (fun k => ?_) (round_l1 st ks ws hst hk hw R hR d (i + 1) (by omega))
    rw [rndN]
    generalize rndN ks ws st i = s at *
    simp only [spec_l4Round.l1]
    rw [if_pos (by omega), if_pos (by omega), if_pos (by omega), if_pos (by omega), ev_right6, Option.bind_some, ev_right11, Option.bind_some, ev_right25, Option.bind_some, if_pos (by omega), if_pos (by omega), if_pos (by omega), if_pos (by omega), if_pos (by omega),
      ev_right2, Option.bind_some, ev_right13, Option.bind_some, ev_right22, Option.bind_some, if_pos (by omega), if_pos (by omega), if_pos (by omega), wrapS ((i : Int) + 1) ((i + 1 : Nat) : Int) (by omega) (by omega) (by omega)]
    rfl
theorem round_l0 (st ks : List Int) (b : ByteArray) (hst : st.length = 8) (hk : ks.length = 64) (hb : b.size = 64) (R : List Int) (hR : Ev (fun k => spec_l4Round.l1 k st ks (schedN b n64) st 0) R) : ∀ d i : Nat, i + d = 64 →
    Ev (fun k => spec_l4Round.l0 k st ks b (schedN b i) (i : Int)) R
  | 0, i, h => by
    obtain rfl : i = n64 := by show i = 64; omega
    refine Ev.step (fun k => ?_) hR
    simp only [spec_l4Round.l0]
    rw [if_neg (by show ¬ ((64 : Nat) : Int) < 64; omega), Option.bind_some, if_pos (by simp; omega), List.nil_append]
  | d + 1, i, h => by
    have hl := schedN_length b i
    have ih := round_l0 st ks b hst hk hb R hR d (i + 1) (by omega)
    rw [schedN] at ih
    by_cases h16 : i < 16
    · have e1 : wrap64 (4 * (i : Int)) = ((4 * i : Nat) : Int) := wrapS _ _ (by omega) (by omega) (by omega)
      have e2 : wrap64 (((4 * i : Nat) : Int) + 4) = ((4 * i + 4 : Nat) : Int) := wrapS _ _ (by omega) (by omega) (by omega)
      have hn : nextW b (schedN b i) i = wrap64 (bigN (bytesOf (b.extract (4 * i) (4 * i + 4))) 0) % 4294967296 := by
        unfold nextW
        rw [if_pos h16]
        unfold wrap64
        omega
      rw [hn] at ih
      have h1 := Ev.bind (f := fun k t => spec_l4Round.l0 k st ks b (schedN b i ++ [t % 4294967296]) ((i + 1 : Nat) : Int)) (ev_big (b.extract (4 * i) (4 * i + 4)) (by rw [ByteArray.size_extract]; omega)) ih
      refine Ev.step (fun k => ?_) h1
      simp only [spec_l4Round.l0]
      rw [e1, e2, if_pos (by omega), if_pos (by omega), if_pos (by omega), if_pos (by omega), if_pos (by omega), wrapS ((i : Int) + 1) ((i + 1 : Nat) : Int) (by omega) (by omega) (by omega), Int.toNat_natCast, Int.toNat_natCast]
      refine congrArg _ (funext fun t => ?_)
      rw [if_pos (by omega)]
    · have e1 : wrap64 ((i : Int) - 15) = ((i - 15 : Nat) : Int) := wrapS _ _ (by omega) (by omega) (by omega)
      have e2 : wrap64 ((i : Int) - 2) = ((i - 2 : Nat) : Int) := wrapS _ _ (by omega) (by omega) (by omega)
      have e3 : wrap64 ((i : Int) - 16) = ((i - 16 : Nat) : Int) := wrapS _ _ (by omega) (by omega) (by omega)
      have e4 : wrap64 ((i : Int) - 7) = ((i - 7 : Nat) : Int) := wrapS _ _ (by omega) (by omega) (by omega)
      have hn : nextW b (schedN b i) i = (((rd (schedN b i) ((i - 16 : Nat) : Int) + sg0 (rd (schedN b i) ((i - 15 : Nat) : Int))) % 4294967296 + rd (schedN b i) ((i - 7 : Nat) : Int)) % 4294967296 + sg1 (rd (schedN b i) ((i - 2 : Nat) : Int))) % 4294967296 := by
        unfold nextW
        rw [if_neg h16]
      rw [hn] at ih
      refine Ev.step (fun k => ?_) ih
      simp only [spec_l4Round.l0]
      rw [e1, e2, e3, e4, if_pos (by omega), if_neg (by omega), if_pos (by omega), if_pos (by omega), if_pos (by omega), if_pos (by omega), if_pos (by omega), if_pos (by omega), ev_right7, Option.bind_some, ev_right18, Option.bind_some, if_pos (by omega), if_pos (by omega), ev_right17, Option.bind_some, ev_right19, Option.bind_some, if_pos (by omega), wrapS ((i : Int) + 1) ((i + 1 : Nat) : Int) (by omega) (by omega) (by omega)]
      rfl
theorem ev_round (st ks : List Int) (b : ByteArray) (hst : st.length = 8) (hk : ks.length = 64) (hb : b.size = 64) : Ev (fun k => spec_l4Round.f k st ks b) (hashL st ks b) := by
  have h2 := round_l2 st (rndN ks (schedN b n64) st n64) hst (rndN_length _ _ _ hst _) _ rfl 8 0 rfl
  rw [List.take_zero, List.drop_zero, List.nil_append, List.append_nil] at h2
  have h1 := round_l1 st ks (schedN b n64) hst hk (schedN_length b 64) _ h2 64 0 rfl
  have h0 := round_l0 st ks b hst hk hb _ h1 64 0 rfl
  exact h0
end Go.Proofs.YtnghcnkffbjddaaDoorV.Aes
