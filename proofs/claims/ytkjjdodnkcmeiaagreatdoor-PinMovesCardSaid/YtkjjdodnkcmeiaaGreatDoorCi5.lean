/- The walks of package cipher: the tables, take, mixed, and one block under one part. -/
import Derived.Outline
import Derived.Laws.Tables
import Derived.Deep.RegionLaw
import Derived.Deep.MidRow
import Derived.Test.YtkjjdodnkcmeiaaGreatDoorPurM
import Derived.Test.YtkjjdodnkcmeiaaGreatDoorLibU
import Derived.Laws.DeepStrings4
namespace Go.Proofs.YtkjjdodnkcmeiaaGreatDoor.PX
open Go.RowKit Go.Proofs.YtkjjdodnkcmeiaaGreatDoorW.PrintWords Go.Proofs.YtkjjdodnkcmeiaaGreatDoorW.PrintLast Go.Proofs.YtkjjdodnkcmeiaaGreatDoorW.PrintMore

/-! ### tables -/
def firstN : List Nat := [57, 49, 41, 33, 25, 17, 9, 1, 58, 50, 42, 34, 26, 18, 10, 2, 59, 51, 43, 35, 27, 19, 11, 3, 60, 52, 44, 36, 63, 55, 47, 39, 31, 23, 15, 7, 62, 54, 46, 38, 30, 22, 14, 6, 61, 53, 45, 37, 29, 21, 13, 5, 28, 20, 12, 4]
def secondN : List Nat := [14, 17, 11, 24, 1, 5, 3, 28, 15, 6, 21, 10, 23, 19, 12, 4, 26, 8, 16, 7, 27, 20, 13, 2, 41, 52, 31, 37, 47, 55, 30, 40, 51, 45, 33, 48, 44, 49, 39, 56, 34, 53, 46, 42, 50, 36, 29, 32]
def enterN : List Nat := [58, 50, 42, 34, 26, 18, 10, 2, 60, 52, 44, 36, 28, 20, 12, 4, 62, 54, 46, 38, 30, 22, 14, 6, 64, 56, 48, 40, 32, 24, 16, 8, 57, 49, 41, 33, 25, 17, 9, 1, 59, 51, 43, 35, 27, 19, 11, 3, 61, 53, 45, 37, 29, 21, 13, 5, 63, 55, 47, 39, 31, 23, 15, 7]
def leaveN : List Nat := [40, 8, 48, 16, 56, 24, 64, 32, 39, 7, 47, 15, 55, 23, 63, 31, 38, 6, 46, 14, 54, 22, 62, 30, 37, 5, 45, 13, 53, 21, 61, 29, 36, 4, 44, 12, 52, 20, 60, 28, 35, 3, 43, 11, 51, 19, 59, 27, 34, 2, 42, 10, 50, 18, 58, 26, 33, 1, 41, 9, 49, 17, 57, 25]
abbrev IsTab (w : World) (A : Option Addr) (tab : List Nat) : Prop := Kd.C (Kd.int .u8) w A (natL tab).length (natL tab)
theorem c74 (w : World) : Calls Tryz.prog 79 #[] w fun e w' => ∃ A c, e = .returned (.slice A 56 c) ∧ 56 ≤ c ∧ IsTab w' A firstN ∧ Below w.heap.size w w' := by
  refine (cipher_first.calls (natL firstN) w rfl).mono ?_
  rintro e w' ⟨v, rfl, hr, hb⟩
  obtain ⟨A, c, rfl, hc, hk⟩ := Kd.R_reads hr
  exact ⟨A, c, rfl, hc, hk, hb⟩
theorem c77 (w : World) : Calls Tryz.prog 81 #[] w fun e w' => ∃ A c, e = .returned (.slice A 48 c) ∧ 48 ≤ c ∧ IsTab w' A secondN ∧ Below w.heap.size w w' := by
  refine (cipher_second.calls (natL secondN) w rfl).mono ?_
  rintro e w' ⟨v, rfl, hr, hb⟩
  obtain ⟨A, c, rfl, hc, hk⟩ := Kd.R_reads hr
  exact ⟨A, c, rfl, hc, hk, hb⟩
theorem c91 (w : World) : Calls Tryz.prog 82 #[] w fun e w' => ∃ A c, e = .returned (.slice A 64 c) ∧ 64 ≤ c ∧ IsTab w' A enterN ∧ Below w.heap.size w w' := by
  refine (cipher_enter.calls (natL enterN) w rfl).mono ?_
  rintro e w' ⟨v, rfl, hr, hb⟩
  obtain ⟨A, c, rfl, hc, hk⟩ := Kd.R_reads hr
  exact ⟨A, c, rfl, hc, hk, hb⟩
theorem c94 (w : World) : Calls Tryz.prog 85 #[] w fun e w' => ∃ A c, e = .returned (.slice A 64 c) ∧ 64 ≤ c ∧ IsTab w' A leaveN ∧ Below w.heap.size w w' := by
  refine (cipher_leave.calls (natL leaveN) w rfl).mono ?_
  rintro e w' ⟨v, rfl, hr, hb⟩
  obtain ⟨A, c, rfl, hc, hk⟩ := Kd.R_reads hr
  exact ⟨A, c, rfl, hc, hk, hb⟩
theorem c92 (w : World) : Calls Tryz.prog 83 #[] w fun e w' => ∃ A c, e = .returned (.slice A 32 c) ∧ 32 ≤ c ∧ IsTab w' A spreadN ∧ Below w.heap.size w w' := by
  refine (cipher_spread.calls (natL spreadN) w rfl).mono ?_
  rintro e w' ⟨v, rfl, hr, hb⟩
  obtain ⟨A, c, rfl, hc, hk⟩ := Kd.R_reads hr
  exact ⟨A, c, rfl, hc, hk, hb⟩
theorem c73 (tab : List Nat) (n : Nat) (hn : tab.length = n) (x wide : Nat) (hx : x < 18446744073709551616) (hw : wide ≤ 64) (hl : tab.length ≤ 64) (ht : ∀ n ∈ tab, n ≤ wide) (A : Option Addr) (c : Nat) (w : World) (hr : IsTab w A tab) (hc : n ≤ c) :
    Calls Tryz.prog 78 #[.slice A n c, .int .u64 (x : Int), .int .i64 (wide : Int)] w fun e w' => ∃ m, e = .returned (.int .u64 ((takeN tab x wide : Nat) : Int)) ∧ w' = w.drewN m := by
  have h := cipher_take.calls 100 A c (natL tab) (x : Int) (wide : Int) _ w hr (by rw [natL_length]; omega) (take_eq tab x wide hx hw hl ht 100 (by omega))
  rw [natL_length, hn] at h
  refine h.mono ?_
  rintro e w' ⟨rfl, ⟨m, rfl⟩⟩
  exact ⟨m, rfl, rfl⟩
theorem c93 (r key : Nat) (hr : r < 4294967296) (hk : key < 18446744073709551616) (A : Option Addr) (c : Nat) (w : World) (hR : IsTab w A spreadN) (hc : 32 ≤ c) :
    Calls Tryz.prog 84 #[.int .u32 (r : Int), .int .u64 (key : Int), .slice A 32 c] w fun e w' => ∃ m, e = .returned (.int .u32 ((mixN r key : Nat) : Int)) ∧ w' = w.drewN m := by
  refine (cipher_mixed.calls 200 (r : Int) (key : Int) A c (natL spreadN) _ w hR hc (mixed_eq r key hr hk 200 (by omega))).mono ?_
  rintro e w' ⟨rfl, ⟨m, rfl⟩⟩
  exact ⟨m, rfl, rfl⟩
theorem c75 (s : ByteArray) (hs : 8 ≤ s.size) (w : World) : Calls Tryz.prog 63 #[.string s] w fun e w' => ∃ m, e = .returned (.int .u64 ((numB ((bl s).take 8) : Nat) : Int)) ∧ w' = w.drewN m := by
  refine (cipher_number.calls 10 s _ w (number_eq s hs 10 (by omega))).mono ?_
  rintro e w' ⟨rfl, ⟨m, rfl⟩⟩
  exact ⟨m, rfl, rfl⟩
theorem c76 (n b : Nat) (hn : n < 2 ^ 28) (hb : b = 1 ∨ b = 2) (w : World) : Calls Tryz.prog 80 #[.int .u64 (n : Int), .int .i64 (b : Int)] w fun e w' => ∃ m, e = .returned (.int .u64 ((halfN n b : Nat) : Int)) ∧ w' = w.drewN m := by
  refine (cipher_half.calls (n : Int) (b : Int) _ w (half_eq n b hn hb)).mono ?_
  rintro e w' ⟨rfl, ⟨m, rfl⟩⟩
  exact ⟨m, rfl, rfl⟩

theorem size_drewN'' (w : World) (n : Nat) : (w.drewN n).heap.size = w.heap.size := by simp
theorem below_drewN2 (w : World) (b n : Nat) : Below b w (w.drewN n) := by
  have := Below.refl b w
  repeat (first | exact this | apply pw_below_drewN)
theorem cell_drewN (w : World) (n : Nat) (p : Addr) : (w.drewN n).cell? p = w.cell? p := by simp
/-! ### one -/
/-- The rounds: (l, r) after i rounds, under the keys in their order. -/
def feisN (key : Nat → Nat) (x : Nat × Nat) : Nat → Nat × Nat
  | 0 => x
  | i + 1 => ((feisN key x i).2, (feisN key x i).1 ^^^ mixN (feisN key x i).2 (key i))
def keyAt (ks : Nat → Nat) (back : Bool) (i : Nat) : Nat := cond back (ks (15 - i)) (ks i)
def oneN (ks : Nat → Nat) (n : Nat) (back : Bool) : Nat :=
  let m := takeN enterN n 64
  let x := feisN (keyAt ks back) (m / 4294967296, m % 4294967296) 16
  takeN leaveN (x.2 * 4294967296 + x.1) 64
theorem feisN_lt (key : Nat → Nat) (x : Nat × Nat) (h : x.1 < 4294967296 ∧ x.2 < 4294967296) : ∀ i, (feisN key x i).1 < 4294967296 ∧ (feisN key x i).2 < 4294967296
  | 0 => h
  | i + 1 => ⟨(feisN_lt key x h i).2, Nat.xor_lt_two_pow (n := 32) (feisN_lt key x h i).1 (mixN_lt _ _)⟩
def PartAt (w : World) (g o : Nat) (ks : Nat → Nat) : Prop := ∀ j, j < 16 → w.cell? ⟨g, o + j, none⟩ = some (.int .u64 (ks j : Int)) 
set_option maxRecDepth 100000 in
set_option maxHeartbeats 1000000 in
theorem c79 (g o : Nat) (ks : Nat → Nat) (hks : ∀ j, ks j < 18446744073709551616) (n : Nat) (hn : n < 18446744073709551616) (back : Bool) (w : World) (hp : PartAt w g o ks) (hg : g < w.heap.size) :
    Calls Tryz.prog 64 #[.pointer (some ⟨g, o, none⟩), .int .u64 (n : Int), .bool back] w fun e w' => e = .returned (.int .u64 ((oneN ks n back : Nat) : Int)) ∧ Below w.heap.size w w' := by
  have hT : takeN enterN n 64 < 18446744073709551616 := takeN_lt enterN n 64
  have HP := Lib.hid hp
  clear hp
  go_enter Tryz.func64, Tryz.ntmps64
  go_wp2_with (first
    | (go_at_call 82; refine (c91 _).mono ?_; rintro e w91 ⟨A91, k91, rfl, hc91, hr91, hb91⟩; have HR91 := Lib.hid hr91; have HB91 := Lib.hid hb91; clear hr91 hb91)
    | (go_at_call 78; refine (c73 enterN 64 rfl n 64 hn (by decide) (by decide) (by decide) A91 k91 _ HR91.out hc91).mono ?_; rintro e w' ⟨n73, rfl, rfl⟩)
    | (go_at_call 83; refine (c92 _).mono ?_; rintro e w92 ⟨A92, k92, rfl, hc92, hr92, hb92⟩; have HR92 := Lib.hid hr92; have HB92 := Lib.hid hb92; clear hr92 hb92))
  have hx : takeN enterN n 64 / 4294967296 < 4294967296 ∧ takeN enterN n 64 % 4294967296 < 4294967296 := ⟨by omega, by omega⟩
  go_loopg [7, 8, 21] 16 (fun kq v7 v8 v21 w' => ∃ i m : Nat, i + kq = 16 ∧ v7 = .int .u32 (((feisN (keyAt ks back) (takeN enterN n 64 / 4294967296, takeN enterN n 64 % 4294967296) i).1 : Nat) : Int) ∧ v8 = .int .u32 (((feisN (keyAt ks back) (takeN enterN n 64 / 4294967296, takeN enterN n 64 % 4294967296) i).2 : Nat) : Int) ∧ v21 = .int .i64 (i : Int) ∧ w' = w92.drewN m)
  case atStart => exact ⟨0, 0, rfl, rfl, rfl, rfl, rfl⟩
  case round =>
    obtain ⟨i, m, hi, rfl, rfl, rfl, rfl⟩ := hrel
    have hl := feisN_lt (keyAt ks back) (takeN enterN n 64 / 4294967296, takeN enterN n 64 % 4294967296) hx i
    have hB : Below w.heap.size w w92 := (HB91.out.trans (below_drewN2 _ _ n73)).trans (HB92.out.mono (by rw [size_drewN'']; exact HB91.out.size))
    have HBx := Lib.hid hB
    have hcell : ∀ j, j < 16 → (w92.drewN m).cell? ⟨g, o + j, none⟩ = some (.int .u64 (ks j : Int)) := by
      intro j hj
      rw [cell_drewN, hB.cell hg]
      exact HP.out j hj
    clear hB
    by_cases h16 : i < 16
    · have hlt : decide ((i : Int) < 16) = true := decide_eq_true (by omega)
      have hxor : ∀ b : Nat, b < 4294967296 → Value.int .u32 (Go.bits .xor .u32 ((feisN (keyAt ks back) (takeN enterN n 64 / 4294967296, takeN enterN n 64 % 4294967296) i).1 : Int) (b : Int)) = .int .u32 ((((feisN (keyAt ks back) (takeN enterN n 64 / 4294967296, takeN enterN n 64 % 4294967296) i).1 ^^^ b : Nat)) : Int) := fun b hb => by rw [u32_xor_nat _ _ hl.1 hb]
      cases back
      · have hc := hcell i h16
        clear hcell
        go_wp2_with (first
          | (go_at_call 84; refine (c93 _ (ks i) hl.2 (hks i) A92 k92 _ (by first | exact HR92.out | exact Kd.C_drewN HR92.out _) hc92).mono ?_; rintro e w' ⟨n93, rfl, rfl⟩))
        go_roundg (gk - 1)
        case measure => omega
        case rel => exact ⟨i + 1, _, by omega, rfl, hxor _ (mixN_lt _ _), rfl, rfl⟩
      · have hc0 := hcell i h16
        have hc := hcell (15 - i) (by omega)
        have he : IntKind.i64.wrap (15 - (i : Int)) = ((15 - i : Nat) : Int) := by rw [IntKind.wrap_i64]; omega
        have he1 : ((15 - i : Nat) : Int) < 16 := by omega
        have he2 : (0 : Int) ≤ ((15 - i : Nat) : Int) := by omega
        clear hcell
        go_wp2_with (first
          | (go_at_call 84; refine (c93 _ (ks (15 - i)) hl.2 (hks (15 - i)) A92 k92 _ (by first | exact HR92.out | exact Kd.C_drewN HR92.out _) hc92).mono ?_; rintro e w' ⟨n93, rfl, rfl⟩))
        go_roundg (gk - 1)
        case measure => omega
        case rel => exact ⟨i + 1, _, by omega, rfl, hxor _ (mixN_lt _ _), rfl, rfl⟩
    · have hlt : decide ((i : Int) < 16) = false := decide_eq_false (by omega)
      obtain rfl : i = 16 := by omega
      clear hcell
      have hor : Go.bits .or .u64 (((feisN (keyAt ks back) (takeN enterN n 64 / 4294967296, takeN enterN n 64 % 4294967296) 16).2 : Int) * 4294967296) ((feisN (keyAt ks back) (takeN enterN n 64 / 4294967296, takeN enterN n 64 % 4294967296) 16).1 : Int) =
          (((feisN (keyAt ks back) (takeN enterN n 64 / 4294967296, takeN enterN n 64 % 4294967296) 16).2 * 4294967296 + (feisN (keyAt ks back) (takeN enterN n 64 / 4294967296, takeN enterN n 64 % 4294967296) 16).1 : Nat) : Int) := by
        generalize feisN (keyAt ks back) (takeN enterN n 64 / 4294967296, takeN enterN n 64 % 4294967296) 16 = z at hl
        obtain ⟨h1, h2⟩ := hl
        rw [show (z.2 : Int) * 4294967296 = ((z.2 * 4294967296 : Nat) : Int) by omega, u64_or_nat _ _ (by omega) (by omega)]
        have := or_add z.2 z.1 32 h1
        rw [show (2 : Nat) ^ 32 = 4294967296 from rfl] at this
        rw [this]
      have HOR := Lib.hid hor
      clear hor
      have hX : ((feisN (keyAt ks back) (takeN enterN n 64 / 4294967296, takeN enterN n 64 % 4294967296) 16).2 * 4294967296 + (feisN (keyAt ks back) (takeN enterN n 64 / 4294967296, takeN enterN n 64 % 4294967296) 16).1) < 18446744073709551616 := by have h1 := hl.1; have h2 := hl.2; omega
      go_wp2_with (first
        | (go_at_call 85; refine (c94 _).mono ?_; rintro e w94 ⟨A94, k94, rfl, hc94, hr94, hb94⟩; have HR94 := Lib.hid hr94; have HB94 := Lib.hid hb94; clear hr94 hb94)
        | (go_at_call 78; (rw [HOR.out]; refine (c73 leaveN 64 rfl _ 64 hX (by decide) (by decide) (by decide) A94 k94 _ HR94.out hc94).mono ?_; rintro e w0 ⟨n73b, rfl, rfl⟩)))
      go_ret
      refine ⟨rfl, ?_⟩
      have h2 : Below (w92.drewN m).heap.size (w92.drewN m) w94 := HB94.out
      exact ((HBx.out.trans (below_drewN2 _ _ m)).trans (h2.mono (by rw [size_drewN'']; exact HBx.out.size))).trans (below_drewN2 _ _ _)
end Go.Proofs.YtkjjdodnkcmeiaaGreatDoor.PX
namespace Go.Proofs.YtkjjdodnkcmeiaaGreatDoor.PX
open Go.RowKit Go.Proofs.YtkjjdodnkcmeiaaGreatDoorW.PrintWords Go.Proofs.YtkjjdodnkcmeiaaGreatDoorW.PrintLast Go.Proofs.YtkjjdodnkcmeiaaGreatDoorW.PrintMore

theorem oneN_lt (ks : Nat → Nat) (n : Nat) (back : Bool) : oneN ks n back < 18446744073709551616 := takeN_lt leaveN _ 64
/-- A made-ready key of two parts lies in block g. -/
structure KeyAt (w : World) (g : Nat) (k0 k1 : Nat → Nat) : Prop where
  lt : g < w.heap.size
  p0 : PartAt w g 0 k0
  p1 : PartAt w g 16 k1
  p2 : PartAt w g 32 k0
  kind : w.cell? ⟨g, 48, none⟩ = some (.int .i64 2)
theorem KeyAt.below {w w' : World} {g : Nat} {k0 k1 : Nat → Nat} (h : KeyAt w g k0 k1) (hb : Below w.heap.size w w') : KeyAt w' g k0 k1 :=
  ⟨Nat.lt_of_lt_of_le h.lt hb.size, fun j hj => by rw [hb.cell h.lt]; exact h.p0 j hj, fun j hj => by rw [hb.cell h.lt]; exact h.p1 j hj, fun j hj => by rw [hb.cell h.lt]; exact h.p2 j hj, by rw [hb.cell h.lt]; exact h.kind⟩
def turnTo (k0 k1 : Nat → Nat) (n : Nat) (back : Bool) : Nat → Nat
  | 0 => n
  | 1 => oneN k0 n back
  | 2 => oneN k1 (oneN k0 n back) (!back)
  | _ => oneN k0 (oneN k1 (oneN k0 n back) (!back)) back
def turnN (k0 k1 : Nat → Nat) (n : Nat) (back : Bool) : Nat := oneN k0 (oneN k1 (oneN k0 n back) (!back)) back
theorem below_next {w w' w'' : World} (h : Below w.heap.size w w') (h2 : Below w'.heap.size w' w'') : Below w.heap.size w w'' := h.trans (h2.mono h.size)
set_option maxRecDepth 100000 in
set_option maxHeartbeats 1000000 in
theorem c52 (g : Nat) (k0 k1 : Nat → Nat) (h0 : ∀ j, k0 j < 18446744073709551616) (h1 : ∀ j, k1 j < 18446744073709551616) (n : Nat) (hn : n < 18446744073709551616) (back : Bool) (w : World) (hk : KeyAt w g k0 k1) :
    Calls Tryz.prog 33 #[.pointer (some ⟨g, 0, none⟩), .int .u64 (n : Int), .bool back] w fun e w' => e = .returned (.int .u64 ((turnN k0 k1 n back : Nat) : Int)) ∧ Below w.heap.size w w' := by
  have HK := Lib.hid hk
  have hkind := hk.kind
  clear hk
  go_enter Tryz.func33, Tryz.ntmps33
  go_wp2
  clear hkind
  go_loopg [1, 21] 3 (fun kq v1 v21 w' => ∃ i : Nat, i + kq = 3 ∧ v1 = .int .u64 ((turnTo k0 k1 n back i : Nat) : Int) ∧ v21 = .int .i64 (i : Int) ∧ Hid (Below w.heap.size w w'))
  case atStart => exact ⟨0, rfl, rfl, rfl, Lib.hid (by repeat (first | exact Below.refl _ _ | apply pw_below_drewN))⟩
  case round =>
    obtain ⟨i, hi, rfl, rfl, HB⟩ := hrel
    have HK' := Lib.hid (HK.out.below HB.out)
    obtain rfl | rfl | rfl | rfl : i = 0 ∨ i = 1 ∨ i = 2 ∨ i = 3 := by omega
    · cases back
      · go_wp2_with (first
          | (go_at_call 64; refine (c79 g 0 k0 h0 n hn false _ HK'.out.p0 HK'.out.lt).mono ?_; rintro e w79 ⟨rfl, hb79⟩; have HB79 := Lib.hid hb79; clear hb79))
        go_roundg (gk - 1)
        case measure => omega
        case rel => exact ⟨1, by omega, rfl, rfl, Lib.hid (below_next HB.out HB79.out)⟩
      · go_wp2_with (first
          | (go_at_call 64; refine (c79 g 32 k0 h0 n hn true _ HK'.out.p2 HK'.out.lt).mono ?_; rintro e w79 ⟨rfl, hb79⟩; have HB79 := Lib.hid hb79; clear hb79))
        go_roundg (gk - 1)
        case measure => omega
        case rel => exact ⟨1, by omega, rfl, rfl, Lib.hid (below_next HB.out HB79.out)⟩
    · cases back
      · go_wp2_with (first
          | (go_at_call 64; refine (c79 g 16 k1 h1 _ (oneN_lt _ _ _) true _ HK'.out.p1 HK'.out.lt).mono ?_; rintro e w79 ⟨rfl, hb79⟩; have HB79 := Lib.hid hb79; clear hb79))
        go_roundg (gk - 1)
        case measure => omega
        case rel => exact ⟨2, by omega, rfl, rfl, Lib.hid (below_next HB.out HB79.out)⟩
      · go_wp2_with (first
          | (go_at_call 64; refine (c79 g 16 k1 h1 _ (oneN_lt _ _ _) false _ HK'.out.p1 HK'.out.lt).mono ?_; rintro e w79 ⟨rfl, hb79⟩; have HB79 := Lib.hid hb79; clear hb79))
        go_roundg (gk - 1)
        case measure => omega
        case rel => exact ⟨2, by omega, rfl, rfl, Lib.hid (below_next HB.out HB79.out)⟩
    · cases back
      · go_wp2_with (first
          | (go_at_call 64; refine (c79 g 32 k0 h0 _ (oneN_lt _ _ _) false _ HK'.out.p2 HK'.out.lt).mono ?_; rintro e w79 ⟨rfl, hb79⟩; have HB79 := Lib.hid hb79; clear hb79))
        go_roundg (gk - 1)
        case measure => omega
        case rel => exact ⟨3, by omega, rfl, rfl, Lib.hid (below_next HB.out HB79.out)⟩
      · go_wp2_with (first
          | (go_at_call 64; refine (c79 g 0 k0 h0 _ (oneN_lt _ _ _) true _ HK'.out.p0 HK'.out.lt).mono ?_; rintro e w79 ⟨rfl, hb79⟩; have HB79 := Lib.hid hb79; clear hb79))
        go_roundg (gk - 1)
        case measure => omega
        case rel => exact ⟨3, by omega, rfl, rfl, Lib.hid (below_next HB.out HB79.out)⟩
    · go_wp2
      go_ret
      exact ⟨rfl, HB.out⟩
end Go.Proofs.YtkjjdodnkcmeiaaGreatDoor.PX
namespace Go.Proofs.YtkjjdodnkcmeiaaGreatDoor.PX
open Go.RowKit Go.Proofs.YtkjjdodnkcmeiaaGreatDoorW.PrintWords Go.Proofs.YtkjjdodnkcmeiaaGreatDoorW.PrintLast Go.Proofs.YtkjjdodnkcmeiaaGreatDoorW.PrintMore

theorem turnN_lt (k0 k1 : Nat → Nat) (n : Nat) (back : Bool) : turnN k0 k1 n back < 18446744073709551616 := oneN_lt _ _ _
theorem c51 (g bx : Nat) (k0 k1 : Nat → Nat) (h0 : ∀ j, k0 j < 18446744073709551616) (h1 : ∀ j, k1 j < 18446744073709551616) (n : Nat) (hn : n < 18446744073709551616) (w : World) (hk : KeyAt w g k0 k1) (hx : w.cell? ⟨bx, 0, none⟩ = some (.pointer (some ⟨g, 0, none⟩))) :
    Calls Tryz.prog 32 #[.int .u64 (n : Int), .pointer (some ⟨bx, 0, none⟩)] w fun e w' => e = .returned (.int .u64 ((turnN k0 k1 n false : Nat) : Int)) ∧ Below w.heap.size w w' := by
  have HK := Lib.hid hk
  clear hk
  go_enter Tryz.func32, Tryz.ntmps32
  go_wp2_with (first | (go_at_call 33; refine (c52 g k0 k1 h0 h1 n hn false _ HK.out).mono ?_; rintro e w52 ⟨rfl, hb52⟩; have HB52 := Lib.hid hb52; clear hb52))
  go_ret
  exact ⟨rfl, HB52.out⟩
theorem c72 (g bx : Nat) (k0 k1 : Nat → Nat) (h0 : ∀ j, k0 j < 18446744073709551616) (h1 : ∀ j, k1 j < 18446744073709551616) (n : Nat) (hn : n < 18446744073709551616) (w : World) (hk : KeyAt w g k0 k1) (hx : w.cell? ⟨bx, 0, none⟩ = some (.pointer (some ⟨g, 0, none⟩))) :
    Calls Tryz.prog 42 #[.int .u64 (n : Int), .pointer (some ⟨bx, 0, none⟩)] w fun e w' => e = .returned (.int .u64 ((turnN k0 k1 n true : Nat) : Int)) ∧ Below w.heap.size w w' := by
  have HK := Lib.hid hk
  clear hk
  go_enter Tryz.func42, Tryz.ntmps42
  go_wp2_with (first | (go_at_call 33; refine (c52 g k0 k1 h0 h1 n hn true _ HK.out).mono ?_; rintro e w52 ⟨rfl, hb52⟩; have HB52 := Lib.hid hb52; clear hb52))
  go_ret
  exact ⟨rfl, HB52.out⟩
theorem hnum (l : List UInt8) : numB (l.take 8) < 18446744073709551616 := by
  have h := numB_lt (l.take 8)
  have h2 : (l.take 8).length ≤ 8 := by rw [List.length_take]; omega
  have h3 : 256 ^ (l.take 8).length ≤ 256 ^ 8 := Nat.pow_le_pow_right (by decide) h2
  exact Nat.lt_of_lt_of_le h (Nat.le_trans h3 (by decide))
theorem c75x (s : ByteArray) (hs : s.size = 8) (w : World) : Calls Tryz.prog 63 #[.string (s.extract 0 8)] w fun e w' => ∃ m, e = .returned (.int .u64 ((numB (bl s) : Nat) : Int)) ∧ w' = w.drewN m := by
  have hx : s.extract 0 8 = s := by
    apply bl_ext
    rw [bl_extract, List.extract_eq_take_drop, List.drop_zero, List.take_of_length_le (by rw [bl_length]; omega)]
  have h := c75 (s.extract 0 8) (by rw [hx]; omega) w
  rw [hx] at h ⊢
  rwa [List.take_of_length_le (by rw [bl_length]; omega)] at h
theorem hnum8 (s : ByteArray) (hs : s.size = 8) : numB (bl s) < 18446744073709551616 := by
  have h := hnum (bl s)
  rwa [List.take_of_length_le (by rw [bl_length]; omega)] at h
theorem c78 (v : Value) (n : Nat) (w0 w : World) (P : Nat → Prop) (hB : Below w0.heap.size w0 w) (ho : Kd.R (Kd.int .u8) 5 w w0.heap.size P v (toInts [])) :
    Calls Tryz.prog 62 #[v, .int .u64 (n : Int)] w fun e w' => ∃ A c, e = .returned (.slice A 8 c) ∧ 8 ≤ c ∧ Kd.C (Kd.int .u8) w' A 8 (toInts (bytesN n)) ∧ Below w0.heap.size w0 w' := by
  refine (cipher_bytes.calls 20 P v (toInts []) (n : Int) _ w0 w hB ho (bytes_eq n [] (by simp) 20 (by omega))).mono ?_
  rintro e w' ⟨u, rfl, hr, hb, _⟩
  obtain ⟨A, c, rfl, hc, hk⟩ := Kd.R_reads hr
  rw [List.nil_append] at hc hk ⊢
  have hl : (toInts (bytesN n)).length = 8 := by simp [toInts, bytesN]
  rw [hl] at hc hk ⊢
  exact ⟨A, c, rfl, hc, hk, hb⟩
theorem make8 (w : World) : ∃ w1, (Instr.makeSlice 65 (.int .i64 0) (.int .i64 8)).run Tryz.prog w = .ok (.slice (some ⟨w.heap.size, 0, none⟩) 0 8) w1 ∧
    Kd.R (Kd.int .u8) 5 w1 w.heap.size (fun _ => True) (.slice (some ⟨w.heap.size, 0, none⟩) 0 8) (toInts []) ∧ Below w.heap.size w w1 := by
  obtain ⟨w1, h1, h2, h3⟩ := make_bytes w 4 (by decide)
  exact ⟨w1, h1, ⟨fun _ _ => trivial, [], h2, Reps.none _ _⟩, (Below.refl _ _).grown h3 (Nat.le_refl _) (fun _ h => by cases h)⟩
theorem below_box1 (w : World) (o : Obj) : Below w.heap.size w (w.alloc o) := by
  have h := Below.refl w.heap.size w
  repeat (first | exact h | apply below_alloc)
set_option maxRecDepth 100000 in
set_option maxHeartbeats 1000000 in
theorem c50e (g bx : Nat) (k0 k1 : Nat → Nat) (h0 : ∀ j, k0 j < 18446744073709551616) (h1 : ∀ j, k1 j < 18446744073709551616) (s : ByteArray) (hs : s.size = 8) (w : World) (hk : KeyAt w g k0 k1) (hx : w.cell? ⟨bx, 0, none⟩ = some (.pointer (some ⟨g, 0, none⟩))) (hbx : bx < w.heap.size) :
    Calls Tryz.prog 31 #[.string s, .func (.func 32) #[] #[.pointer (some ⟨bx, 0, none⟩)]] w fun e w' => e = .returned (.tuple #[.string ⟨(bytesN (turnN k0 k1 (numB (bl s)) false)).toArray⟩, .int .i64 0]) ∧ Below w.heap.size w w' := by
  have C75 := Lib.hid (c75x s hs)
  have hN := hnum8 s hs
  obtain ⟨w1, hmk, hR, hB1⟩ := make8 w
  have HR := Lib.hid hR
  have HB1 := Lib.hid hB1
  have HK := Lib.hid (hk.below hB1)
  have HX := Lib.hid (show w1.cell? ⟨bx, 0, none⟩ = some (.pointer (some ⟨g, 0, none⟩)) by rw [hB1.cell hbx]; exact hx)
  clear hR hB1 hk hx
  go_enter Tryz.func31, Tryz.ntmps31
  go_wp2
  have HR' : Hid (Kd.R (Kd.int .u8) 5 w1 w.heap.size (fun _ => True) (.slice (some ⟨w.heap.size, 0, none⟩) 0 8) (toInts [])) := HR
  go_loopg [6, 7] 1 (fun kq v6 v7 w' => (kq = 1 ∧ v6 = .slice (some ⟨w.heap.size, 0, none⟩) 0 8 ∧ v7 = .int .i64 0 ∧ w' = w1) ∨
    (kq = 0 ∧ ∃ A c, v6 = .slice A 8 c ∧ 8 ≤ c ∧ v7 = .int .i64 8 ∧ Hid (Kd.C (Kd.int .u8) w' A 8 (toInts (bytesN (turnN k0 k1 (numB (bl s)) false)))) ∧ Hid (Below w.heap.size w w')))
  case atStart => exact Or.inl ⟨rfl, rfl, rfl, rfl⟩
  case round =>
    rcases hrel with ⟨rfl, rfl, rfl, rfl⟩ | ⟨rfl, A, c, rfl, hc, rfl, HC, HB⟩
    · go_wp2_with (first
        | (go_at_call 63; (with_reducible refine (C75.out _).mono ?_); rintro e w75 ⟨m75, rfl, rfl⟩)
        | (go_at_call 32; go_loud ((with_reducible refine (c51 g bx k0 k1 h0 h1 (numB (bl s)) hN _ (HK.out.below (below_drewN2 _ _ _)) (by rw [cell_drewN]; exact HX.out)).mono ?_)); rintro e w51 ⟨rfl, hb51⟩; have HB51 := Lib.hid hb51; clear hb51)
        | (go_at_call 62; (with_reducible refine (c78 _ (turnN k0 k1 (numB (bl s)) false) w w51 (fun _ => True) (below_next (HB1.out.trans (below_drewN2 _ _ m75)) HB51.out) (Kd.R_below (Kd.R_below HR.out (below_drewN2 _ _ m75)) HB51.out)).mono ?_); rintro e w78 ⟨A78, k78, rfl, hc78, hC78, hb78⟩; have HC78 := Lib.hid hC78; have HB78 := Lib.hid hb78; clear hC78 hb78))
      go_roundg 0
      case measure => omega
      case rel => exact Or.inr ⟨rfl, A78, k78, rfl, hc78, rfl, HC78, HB78⟩
    · have kc := Kd.C_string (P := Tryz.prog) (src := 65) (dst := 9) (c := c) Tryz.underlying65 Tryz.underlying5 Tryz.underlying9 HC.out
      rw [strOfNums_toInts] at kc
      go_wp2
      go_ret2
      exact ⟨rfl, HB.out⟩
set_option maxRecDepth 100000 in
set_option maxHeartbeats 1000000 in
theorem c50d (g bx : Nat) (k0 k1 : Nat → Nat) (h0 : ∀ j, k0 j < 18446744073709551616) (h1 : ∀ j, k1 j < 18446744073709551616) (s : ByteArray) (hs : s.size = 8) (w : World) (hk : KeyAt w g k0 k1) (hx : w.cell? ⟨bx, 0, none⟩ = some (.pointer (some ⟨g, 0, none⟩))) (hbx : bx < w.heap.size) :
    Calls Tryz.prog 31 #[.string s, .func (.func 42) #[] #[.pointer (some ⟨bx, 0, none⟩)]] w fun e w' => e = .returned (.tuple #[.string ⟨(bytesN (turnN k0 k1 (numB (bl s)) true)).toArray⟩, .int .i64 0]) ∧ Below w.heap.size w w' := by
  have C75 := Lib.hid (c75x s hs)
  have hN := hnum8 s hs
  obtain ⟨w1, hmk, hR, hB1⟩ := make8 w
  have HR := Lib.hid hR
  have HB1 := Lib.hid hB1
  have HK := Lib.hid (hk.below hB1)
  have HX := Lib.hid (show w1.cell? ⟨bx, 0, none⟩ = some (.pointer (some ⟨g, 0, none⟩)) by rw [hB1.cell hbx]; exact hx)
  clear hR hB1 hk hx
  go_enter Tryz.func31, Tryz.ntmps31
  go_wp2
  have HR' : Hid (Kd.R (Kd.int .u8) 5 w1 w.heap.size (fun _ => True) (.slice (some ⟨w.heap.size, 0, none⟩) 0 8) (toInts [])) := HR
  go_loopg [6, 7] 1 (fun kq v6 v7 w' => (kq = 1 ∧ v6 = .slice (some ⟨w.heap.size, 0, none⟩) 0 8 ∧ v7 = .int .i64 0 ∧ w' = w1) ∨
    (kq = 0 ∧ ∃ A c, v6 = .slice A 8 c ∧ 8 ≤ c ∧ v7 = .int .i64 8 ∧ Hid (Kd.C (Kd.int .u8) w' A 8 (toInts (bytesN (turnN k0 k1 (numB (bl s)) true)))) ∧ Hid (Below w.heap.size w w')))
  case atStart => exact Or.inl ⟨rfl, rfl, rfl, rfl⟩
  case round =>
    rcases hrel with ⟨rfl, rfl, rfl, rfl⟩ | ⟨rfl, A, c, rfl, hc, rfl, HC, HB⟩
    · go_wp2_with (first
        | (go_at_call 63; (with_reducible refine (C75.out _).mono ?_); rintro e w75 ⟨m75, rfl, rfl⟩)
        | (go_at_call 42; go_loud ((with_reducible refine (c72 g bx k0 k1 h0 h1 (numB (bl s)) hN _ (HK.out.below (below_drewN2 _ _ _)) (by rw [cell_drewN]; exact HX.out)).mono ?_)); rintro e w72x ⟨rfl, hb72x⟩; have HB72x := Lib.hid hb72x; clear hb72x)
        | (go_at_call 62; (with_reducible refine (c78 _ (turnN k0 k1 (numB (bl s)) true) w w72x (fun _ => True) (below_next (HB1.out.trans (below_drewN2 _ _ m75)) HB72x.out) (Kd.R_below (Kd.R_below HR.out (below_drewN2 _ _ m75)) HB72x.out)).mono ?_); rintro e w78 ⟨A78, k78, rfl, hc78, hC78, hb78⟩; have HC78 := Lib.hid hC78; have HB78 := Lib.hid hb78; clear hC78 hb78))
      go_roundg 0
      case measure => omega
      case rel => exact Or.inr ⟨rfl, A78, k78, rfl, hc78, rfl, HC78, HB78⟩
    · have kc := Kd.C_string (P := Tryz.prog) (src := 65) (dst := 9) (c := c) Tryz.underlying65 Tryz.underlying5 Tryz.underlying9 HC.out
      rw [strOfNums_toInts] at kc
      go_wp2
      go_ret2
      exact ⟨rfl, HB.out⟩
/-- The text that a text of eight bytes becomes. -/
def sealN (k0 k1 : Nat → Nat) (s : ByteArray) (back : Bool) : ByteArray := ⟨(bytesN (turnN k0 k1 (numB (bl s)) back)).toArray⟩
set_option maxRecDepth 100000 in
set_option maxHeartbeats 1000000 in
theorem c25 (g : Nat) (k0 k1 : Nat → Nat) (h0 : ∀ j, k0 j < 18446744073709551616) (h1 : ∀ j, k1 j < 18446744073709551616) (s : ByteArray) (hs : s.size = 8) (w : World) (hk : KeyAt w g k0 k1) :
    Calls Tryz.prog 15 #[.pointer (some ⟨g, 0, none⟩), .string s] w fun e w' => e = .returned (.tuple #[.string (sealN k0 k1 s false), .int .i64 0]) ∧ Below w.heap.size w w' := by
  have HK := Lib.hid hk
  clear hk
  go_enter Tryz.func15, Tryz.ntmps15
  go_wp2_with (first | (go_at_call 31; go_loud (with_reducible refine (c50e g w.heap.size k0 k1 h0 h1 s hs _ (HK.out.below (below_box1 w _)) (by simp) (by simp)).mono ?_); rintro e w50 ⟨rfl, hb50⟩; have HB50 := Lib.hid hb50; clear hb50))
  go_ret2
  exact ⟨rfl, below_next (below_box1 w _) HB50.out⟩
set_option maxRecDepth 100000 in
set_option maxHeartbeats 1000000 in
theorem c47 (g : Nat) (k0 k1 : Nat → Nat) (h0 : ∀ j, k0 j < 18446744073709551616) (h1 : ∀ j, k1 j < 18446744073709551616) (s : ByteArray) (hs : s.size = 8) (w : World) (hk : KeyAt w g k0 k1) :
    Calls Tryz.prog 18 #[.pointer (some ⟨g, 0, none⟩), .string s] w fun e w' => e = .returned (.tuple #[.string (sealN k0 k1 s true), .int .i64 0]) ∧ Below w.heap.size w w' := by
  have HK := Lib.hid hk
  clear hk
  go_enter Tryz.func18, Tryz.ntmps18
  go_wp2_with (first | (go_at_call 31; go_loud (with_reducible refine (c50d g w.heap.size k0 k1 h0 h1 s hs _ (HK.out.below (below_box1 w _)) (by simp) (by simp)).mono ?_); rintro e w50 ⟨rfl, hb50⟩; have HB50 := Lib.hid hb50; clear hb50))
  go_ret2
  exact ⟨rfl, below_next (below_box1 w _) HB50.out⟩
end Go.Proofs.YtkjjdodnkcmeiaaGreatDoor.PX
namespace Go.Proofs.YtkjjdodnkcmeiaaGreatDoor.PX
open Go.RowKit Go.Proofs.YtkjjdodnkcmeiaaGreatDoorW.PrintWords Go.Proofs.YtkjjdodnkcmeiaaGreatDoorW.PrintLast Go.Proofs.YtkjjdodnkcmeiaaGreatDoorW.PrintMore

/-! ### take, bit by bit -/
theorem takeFold (x wide : Nat) : ∀ (tab : List Nat) (out : Nat), tab.foldl (takeStep x wide) out = out * 2 ^ tab.length + takeN tab x wide
  | [], out => by simp [takeN]
  | n :: tab, out => by
    have h1 := takeFold x wide tab (takeStep x wide out n)
    have h2 := takeFold x wide tab (takeStep x wide 0 n)
    unfold takeN
    rw [List.foldl_cons, h1, List.foldl_cons, h2, List.length_cons, Nat.pow_succ]
    unfold takeStep
    rw [Nat.mul_zero, Nat.zero_add, Nat.add_mul, Nat.add_assoc, Nat.mul_comm 2 out, Nat.mul_assoc, Nat.mul_comm 2 (2 ^ tab.length)]
theorem takeN_cons (x wide n : Nat) (tab : List Nat) : takeN (n :: tab) x wide = 2 ^ tab.length * ((x / 2 ^ (wide - n)) % 2) + takeN tab x wide := by
  have h := takeFold x wide tab (takeStep x wide 0 n)
  unfold takeN at h ⊢
  rw [List.foldl_cons, h]
  unfold takeStep
  rw [Nat.mul_zero, Nat.zero_add, Nat.mul_comm]
theorem bit_mod (a : Nat) : (a % 2).testBit 0 = a.testBit 0 := by
  rw [Nat.testBit_zero, Nat.testBit_zero, Nat.mod_mod]
theorem takeN_bit (x wide : Nat) : ∀ (tab : List Nat) (j : Nat), j < tab.length → (takeN tab x wide).testBit j = x.testBit (wide - tab.getD (tab.length - 1 - j) 0)
  | [], j, h => by simp at h
  | n :: tab, j, h => by
    rw [takeN_cons, Nat.testBit_two_pow_mul_add _ (takeN_lt tab x wide)]
    rw [List.length_cons] at h ⊢
    by_cases hj : j < tab.length
    · rw [if_pos hj, takeN_bit x wide tab j hj, show tab.length + 1 - 1 - j = (tab.length - 1 - j) + 1 by omega, List.getD_cons_succ]
    · obtain rfl : j = tab.length := by omega
      rw [if_neg hj, Nat.sub_self, bit_mod, show tab.length + 1 - 1 - tab.length = 0 by omega, List.getD_cons_zero, Nat.testBit_div_two_pow, Nat.zero_add]
theorem perm_eq (A B : List Nat) (hA : A.length = 64) (hB : B.length = 64) (h : ∀ j : Fin 64, 64 - B.getD (63 - (64 - A.getD (63 - j.1) 0)) 0 = j.1 ∧ 64 - A.getD (63 - j.1) 0 < 64) (x : Nat) (hx : x < 18446744073709551616) :
    takeN A (takeN B x 64) 64 = x := by
  apply Nat.eq_of_testBit_eq
  intro j
  by_cases hj : j < 64
  · obtain ⟨h1, h2⟩ := h ⟨j, hj⟩
    rw [takeN_bit _ _ A j (by omega), hA, show 64 - 1 - j = 63 - j by omega, takeN_bit _ _ B _ (by rw [hB]; exact h2), hB, show 64 - 1 - (64 - A.getD (63 - j) 0) = 63 - (64 - A.getD (63 - j) 0) by omega]
    exact congrArg x.testBit h1
  · have e1 : takeN A (takeN B x 64) 64 < 2 ^ j := Nat.lt_of_lt_of_le (by have := takeN_lt A (takeN B x 64) 64; rwa [hA] at this) (Nat.pow_le_pow_right (by decide) (by omega))
    have e2 : x < 2 ^ j := Nat.lt_of_lt_of_le hx (by
      have : (2 : Nat) ^ 64 ≤ 2 ^ j := Nat.pow_le_pow_right (by decide) (by omega)
      exact this)
    rw [Nat.testBit_lt_two_pow e1, Nat.testBit_lt_two_pow e2]
theorem enter_leave (x : Nat) (hx : x < 18446744073709551616) : takeN enterN (takeN leaveN x 64) 64 = x := perm_eq enterN leaveN rfl rfl (by decide +kernel) x hx
theorem leave_enter (x : Nat) (hx : x < 18446744073709551616) : takeN leaveN (takeN enterN x 64) 64 = x := perm_eq leaveN enterN rfl rfl (by decide +kernel) x hx

/-! ### the rounds, back -/
theorem feis_back (key key' : Nat → Nat) (hk : ∀ j, j < 16 → key' j = key (15 - j)) (x : Nat × Nat) : ∀ j, j ≤ 16 → feisN key' ((feisN key x 16).2, (feisN key x 16).1) j = ((feisN key x (16 - j)).2, (feisN key x (16 - j)).1)
  | 0, _ => rfl
  | j + 1, h => by
    have ih := feis_back key key' hk x j (by omega)
    show ((feisN key' _ j).2, (feisN key' _ j).1 ^^^ mixN (feisN key' _ j).2 (key' j)) = _
    rw [ih, hk j (by omega)]
    obtain ⟨i, hi⟩ : ∃ i, 16 - j = i + 1 := ⟨15 - j, by omega⟩
    rw [hi, show 16 - (j + 1) = i by omega, show 15 - j = i by omega]
    show ((feisN key x i).2, ((feisN key x i).1 ^^^ mixN (feisN key x i).2 (key i)) ^^^ mixN (feisN key x i).2 (key i)) = _
    rw [Nat.xor_assoc, Nat.xor_self, Nat.xor_zero]
theorem one_back (ks : Nat → Nat) (n : Nat) (hn : n < 18446744073709551616) (back : Bool) : oneN ks (oneN ks n back) (!back) = n := by
  have hm : takeN enterN n 64 < 18446744073709551616 := takeN_lt enterN n 64
  have hx := feisN_lt (keyAt ks back) (takeN enterN n 64 / 4294967296, takeN enterN n 64 % 4294967296) ⟨by omega, by omega⟩ 16
  have hb := feis_back (keyAt ks back) (keyAt ks (!back)) (fun j hj => by
    unfold keyAt
    cases back
    · rfl
    · show ks j = ks (15 - (15 - j))
      rw [show 15 - (15 - j) = j by omega]) (takeN enterN n 64 / 4294967296, takeN enterN n 64 % 4294967296) 16 (by omega)
  unfold oneN
  dsimp only
  rw [enter_leave _ (by omega)]
  generalize hz : feisN (keyAt ks back) (takeN enterN n 64 / 4294967296, takeN enterN n 64 % 4294967296) 16 = z at *
  rw [show (z.2 * 4294967296 + z.1) / 4294967296 = z.2 by omega, show (z.2 * 4294967296 + z.1) % 4294967296 = z.1 by omega, hb]
  have h0 : feisN (keyAt ks back) (takeN enterN n 64 / 4294967296, takeN enterN n 64 % 4294967296) (16 - 16) = (takeN enterN n 64 / 4294967296, takeN enterN n 64 % 4294967296) := rfl
  rw [h0]
  dsimp only
  rw [show takeN enterN n 64 / 4294967296 * 4294967296 + takeN enterN n 64 % 4294967296 = takeN enterN n 64 by omega, leave_enter n hn]
theorem turn_back (k0 k1 : Nat → Nat) (n : Nat) (hn : n < 18446744073709551616) (back : Bool) : turnN k0 k1 (turnN k0 k1 n back) (!back) = n := by
  unfold turnN
  rw [one_back k0 _ (oneN_lt _ _ _) back]
  rw [show oneN k1 (oneN k1 (oneN k0 n back) (!back)) (!(!back)) = oneN k0 n back from one_back k1 _ (oneN_lt _ _ _) (!back)]
  exact one_back k0 n hn back

/-! ### eight bytes -/
theorem byteAt_nat (n j : Nat) : (byteAt n j).toNat = n / 2 ^ (56 - 8 * j) % 256 := by
  unfold byteAt
  rw [UInt8.toNat_ofNat']
theorem num_bytes (n : Nat) (hn : n < 18446744073709551616) : numB (bytesN n) = n := by
  have e : bytesN n = [byteAt n 0, byteAt n 1, byteAt n 2, byteAt n 3, byteAt n 4, byteAt n 5, byteAt n 6, byteAt n 7] := rfl
  rw [e]
  unfold numB
  simp only [List.foldl_cons, List.foldl_nil, byteAt_nat, Nat.reduceMul, Nat.reduceSub, Nat.reducePow]
  omega
theorem bytes_num (l : List UInt8) (hl : l.length = 8) : bytesN (numB l) = l := by
  match l, hl with
  | [c0, c1, c2, c3, c4, c5, c6, c7], _ =>
    have e : ∀ n, bytesN n = [byteAt n 0, byteAt n 1, byteAt n 2, byteAt n 3, byteAt n 4, byteAt n 5, byteAt n 6, byteAt n 7] := fun _ => rfl
    rw [e]
    have h0 := c0.toNat_lt
    have h1 := c1.toNat_lt
    have h2 := c2.toNat_lt
    have h3 := c3.toNat_lt
    have h4 := c4.toNat_lt
    have h5 := c5.toNat_lt
    have h6 := c6.toNat_lt
    have h7 := c7.toNat_lt
    have hv : ∀ (j : Nat) (c : UInt8), numB [c0, c1, c2, c3, c4, c5, c6, c7] / 2 ^ (56 - 8 * j) % 256 = c.toNat → byteAt (numB [c0, c1, c2, c3, c4, c5, c6, c7]) j = c := by
      intro j c h
      apply UInt8.toNat_inj.1
      rw [byteAt_nat, h]
    have hnum : numB [c0, c1, c2, c3, c4, c5, c6, c7] = ((((((c0.toNat * 256 + c1.toNat) * 256 + c2.toNat) * 256 + c3.toNat) * 256 + c4.toNat) * 256 + c5.toNat) * 256 + c6.toNat) * 256 + c7.toNat := by
      simp [numB]
    rw [hv 0 c0 (by rw [hnum]; simp only [Nat.reduceMul, Nat.reduceSub, Nat.reducePow]; omega), hv 1 c1 (by rw [hnum]; simp only [Nat.reduceMul, Nat.reduceSub, Nat.reducePow]; omega),
      hv 2 c2 (by rw [hnum]; simp only [Nat.reduceMul, Nat.reduceSub, Nat.reducePow]; omega), hv 3 c3 (by rw [hnum]; simp only [Nat.reduceMul, Nat.reduceSub, Nat.reducePow]; omega),
      hv 4 c4 (by rw [hnum]; simp only [Nat.reduceMul, Nat.reduceSub, Nat.reducePow]; omega), hv 5 c5 (by rw [hnum]; simp only [Nat.reduceMul, Nat.reduceSub, Nat.reducePow]; omega),
      hv 6 c6 (by rw [hnum]; simp only [Nat.reduceMul, Nat.reduceSub, Nat.reducePow]; omega), hv 7 c7 (by rw [hnum]; simp only [Nat.reduceMul, Nat.reduceSub, Nat.reducePow]; omega)]
theorem sealN_size (k0 k1 : Nat → Nat) (s : ByteArray) (back : Bool) : (sealN k0 k1 s back).size = 8 := by
  unfold sealN
  rw [size_mk (bytesN _)]
  simp [bytesN]
/-- WHAT IS SEALED IS UNSEALED. -/
theorem seal_back (k0 k1 : Nat → Nat) (s : ByteArray) (hs : s.size = 8) (back : Bool) : sealN k0 k1 (sealN k0 k1 s back) (!back) = s := by
  apply bl_ext
  have hb : ∀ s b, bl (sealN k0 k1 s b) = bytesN (turnN k0 k1 (numB (bl s)) b) := fun _ _ => rfl
  rw [hb, hb, num_bytes _ (turnN_lt _ _ _ _), turn_back k0 k1 _ (hnum8 s hs) back, bytes_num (bl s) (by rw [bl_length, hs])]
end Go.Proofs.YtkjjdodnkcmeiaaGreatDoor.PX
namespace Go.Proofs.YtkjjdodnkcmeiaaGreatDoor.PX
open Go.RowKit Go.Proofs.YtkjjdodnkcmeiaaGreatDoorW.PrintWords Go.Proofs.YtkjjdodnkcmeiaaGreatDoorW.PrintLast Go.Proofs.YtkjjdodnkcmeiaaGreatDoorW.PrintMore

def byN (i : Nat) : Nat := if i = 0 ∨ i = 1 ∨ i = 8 ∨ i = 15 then 1 else 2
def halfTo (x : Nat) : Nat → Nat
  | 0 => x
  | i + 1 => halfN (halfTo x i) (byN i)
theorem halfTo_lt (x : Nat) (h : x < 2 ^ 28) : ∀ i, halfTo x i < 2 ^ 28
  | 0 => h
  | _ + 1 => halfN_lt _ _
def partN (s : List UInt8) : Nat := takeN firstN (numB (s.take 8)) 64
def keyN (s : List UInt8) (i : Nat) : Nat := takeN secondN (halfTo (partN s / 268435456) (i + 1) * 268435456 + halfTo (partN s % 268435456) (i + 1)) 56
theorem keyN_lt (s : List UInt8) (i : Nat) : keyN s i < 18446744073709551616 := Nat.lt_of_lt_of_le (takeN_lt secondN _ 56) (by decide)
theorem number_lt (l : List UInt8) : numB (l.take 8) < 18446744073709551616 := by
  have h := numB_lt (l.take 8)
  have h2 : (l.take 8).length ≤ 8 := by rw [List.length_take]; omega
  have h3 : 256 ^ (l.take 8).length ≤ 256 ^ 8 := Nat.pow_le_pow_right (by decide) h2
  exact Nat.lt_of_lt_of_le h (Nat.le_trans h3 (by decide))
theorem c76_1 (n : Nat) (hn : n < 2 ^ 28) (w : World) : Calls Tryz.prog 80 #[.int .u64 (n : Int), .int .i64 1] w fun e w' => ∃ m, e = .returned (.int .u64 ((halfN n 1 : Nat) : Int)) ∧ w' = w.drewN m := c76 n 1 hn (Or.inl rfl) w
theorem c76_2 (n : Nat) (hn : n < 2 ^ 28) (w : World) : Calls Tryz.prog 80 #[.int .u64 (n : Int), .int .i64 2] w fun e w' => ∃ m, e = .returned (.int .u64 ((halfN n 2 : Nat) : Int)) ∧ w' = w.drewN m := c76 n 2 hn (Or.inr rfl) w
theorem join28 (a b : Nat) (ha : a < 2 ^ 28) (hb : b < 2 ^ 28) : Go.bits .or .u64 (IntKind.u64.wrap ((a : Int) * 268435456)) (b : Int) = ((a * 268435456 + b : Nat) : Int) := by
  rw [show (a : Int) * 268435456 = ((a * 268435456 : Nat) : Int) by omega, wrapU (by omega), u64_or_nat _ _ (by omega) (by omega)]
  have := or_add a b 28 hb
  rw [show (2 : Nat) ^ 28 = 268435456 from rfl] at this
  rw [this]
theorem join_lt (a b : Nat) (ha : a < 2 ^ 28) (hb : b < 2 ^ 28) : a * 268435456 + b < 2 ^ 56 := by omega
theorem c73s (x : Nat) (hx : x < 18446744073709551616) (A : Option Addr) (c : Nat) (w : World) (hr : IsTab w A secondN) (hc : 48 ≤ c) :
    Calls Tryz.prog 78 #[.slice A 48 c, .int .u64 (x : Int), .int .i64 56] w fun e w' => ∃ m, e = .returned (.int .u64 ((takeN secondN x 56 : Nat) : Int)) ∧ w' = w.drewN m :=
  c73 secondN 48 rfl x 56 hx (by decide) (by decide) (by decide) A c w hr hc
/-- Sixteen numbers lie in block g, and may be written. -/
def RowAt (W : World) (g : Nat) (f : Nat → Nat) : Prop := ∀ j, j < 16 → W.cell? ⟨g, j, none⟩ = some (.int .u64 (f j : Int)) ∧ W.frozen? ⟨g, j, none⟩ = false
theorem RowAt.below {W W' : World} {g : Nat} {f : Nat → Nat} (h : RowAt W g f) (hb : Below W.heap.size W W') (hg : g < W.heap.size) : RowAt W' g f :=
  fun j hj => ⟨by rw [hb.cell hg]; exact (h j hj).1, by rw [hb.frozen hg]; exact (h j hj).2⟩
theorem RowAt.set {W : World} {g i : Nat} {f : Nat → Nat} (h : RowAt W g f) (hi : i < 16) (v : Nat) : RowAt (W.setCell ⟨g, i, none⟩ (.int .u64 (v : Int))) g (fun j => if j = i then v else f j) := by
  intro j hj
  dsimp only
  by_cases e : j = i
  · subst e
    rw [if_pos rfl]
    exact ⟨World.cell?_setCell_same _ _ _ (h j hj).1, by rw [World.frozen?_setCell]; exact (h j hj).2⟩
  · rw [if_neg e]
    have hne : (⟨g, i, none⟩ : Addr) ≠ ⟨g, j, none⟩ := by intro h; injection h with _ h2 _; exact e h2.symm
    exact ⟨by rw [World.cell?_setCell_other _ _ _ _ hne]; exact (h j hj).1, by rw [World.frozen?_setCell]; exact (h j hj).2⟩
theorem RowAt.other {W : World} {g g' i : Nat} {f : Nat → Nat} (h : RowAt W g f) (hg : g' ≠ g) (v : Value) : RowAt (W.setCell ⟨g', i, none⟩ v) g f := by
  intro j hj
  have hne : (⟨g', i, none⟩ : Addr) ≠ ⟨g, j, none⟩ := by intro h; injection h with h1 _ _; exact hg h1
  exact ⟨by rw [World.cell?_setCell_other _ _ _ _ hne]; exact (h j hj).1, by rw [World.frozen?_setCell]; exact (h j hj).2⟩
theorem RowAt.congr {W : World} {g : Nat} {f f' : Nat → Nat} (h : RowAt W g f) (e : ∀ j, j < 16 → f j = f' j) : RowAt W g f' := fun j hj => by rw [← e j hj]; exact h j hj
def zero16 : Array Value := #[.int .u64 0, .int .u64 0, .int .u64 0, .int .u64 0, .int .u64 0, .int .u64 0, .int .u64 0, .int .u64 0, .int .u64 0, .int .u64 0, .int .u64 0, .int .u64 0, .int .u64 0, .int .u64 0, .int .u64 0, .int .u64 0]
theorem RowAt.key {W : World} {g i : Nat} {s : List UInt8} (h : RowAt W g (fun j => if j < i then keyN s j else 0)) (hi : i < 16) (v : Nat) (hv : v = keyN s i) :
    RowAt (W.setCell ⟨g, i, none⟩ (.int .u64 (v : Int))) g (fun j => if j < i + 1 then keyN s j else 0) := by
  refine (h.set hi v).congr fun j hj => ?_
  skip
  by_cases e : j = i
  · rw [if_pos e, if_pos (by omega), hv, e]
  · rw [if_neg e]
    by_cases e2 : j < i
    · rw [if_pos e2, if_pos (by omega)]
    · rw [if_neg e2, if_neg (by omega)]
theorem halfTo_of (x i b : Nat) (hb : byN i = b) : halfTo x (i + 1) = halfN (halfTo x i) b := by rw [← hb]; rfl
theorem key_v (s : List UInt8) (i b : Nat) (hb : byN i = b) : takeN secondN (halfN (halfTo (partN s / 268435456) i) b * 268435456 + halfN (halfTo (partN s % 268435456) i) b) 56 = keyN s i := by
  subst hb
  rfl
def keysL (s : List UInt8) : List Value := (List.range 16).map fun i => Value.int .u64 (keyN s i : Int)
theorem keysL_one (s : List UInt8) : ∀ v ∈ keysL s, v.oneCell' = true := by
  intro v hv
  unfold keysL at hv
  obtain ⟨i, _, rfl⟩ := List.mem_map.1 hv
  rfl
theorem info70n : (Tryz.prog.info? 92).map (·.size) = some 16 := by kernel_rfl
theorem info70 (s : List UInt8) : (Tryz.prog.info? 92).map (·.size) = some (keysL s).length := by
  have h : (keysL s).length = 16 := by simp [keysL]
  rw [h]
  exact info70n
theorem keysL_at {W : World} {g : Nat} {s : List UInt8} (h : RowAt W g (fun j => if j < 16 then keyN s j else 0)) : W.rangeAt g 0 (keysL s) := by
  intro j v hv
  unfold keysL at hv
  rw [List.getElem?_map] at hv
  have hj : j < 16 := by
    cases hr : (List.range 16)[j]? with
    | none => rw [hr] at hv; cases hv
    | some x => have := (List.getElem?_eq_some_iff.1 hr).1; simpa using this
  rw [List.getElem?_range hj, Option.map_some] at hv
  cases hv
  have := (h j hj).1
  dsimp only at this
  rw [if_pos hj] at this
  rw [Nat.zero_add]
  exact this
theorem there16 {W : World} {g : Nat} {f : Nat → Nat} (h : RowAt W g f) : W.there g 0 16 := by
  intro j hj
  rw [Nat.zero_add, (h j hj).1]
  exact ⟨rfl, (h j hj).2⟩
theorem results_cell_mid {P : Program} {fn : Func} {p : Tmp} {ty : TypeId} (h : fn.results = #[.cell p ty]) (tmps : Array Value) (w : World) (b : Nat) (cs : List Value) (d : TypeDesc)
    (hp : tmps.getD p undef = .pointer (some ⟨b, 0, none⟩)) (hc : w.rangeAt b 0 cs)
    (hu : P.underlying ty = some d) (hd : d.isRow = true) (hi : (P.info? ty).map (·.size) = some cs.length) :
    (results fn tmps).run P w = .ok (.agg cs.toArray) w := by
  have hp' : tmps[p]?.getD undef = .pointer (some ⟨b, 0, none⟩) := by simpa using hp
  simp [results, h, hp', asAddr, run_loadVar_mid w b 0 ty cs d hc hu hd hi]
theorem zero16_at (j : Nat) (h : j < 16) : zero16[j]? = some (.int .u64 ((0 : Nat) : Int)) := by
  have hh : zero16 = Array.replicate 16 (.int .u64 0) := rfl
  rw [hh, Array.getElem?_replicate, if_pos h]
  rfl
theorem below_cells {B : Nat} {a : World} (b : Nat) (hb : B ≤ b) : ∀ (vs : List Value) (o : Nat) {w : World}, Below B a w → Below B a (w.setCells b o vs)
  | [], _, _, h => h
  | v :: vs, o, _, h => below_cells b hb vs (o + 1) (h.setCell hb v)
theorem rowAt_new (w : World) : RowAt (w.alloc (.cells zero16 92)) w.heap.size (fun _ => 0) := by
  intro j hj
  refine ⟨?_, ?_⟩
  · rw [cell_of_row (w.alloc (.cells zero16 92)) w.heap.size j zero16 92 (0, 0) (heap_alloc_new w _)]
    exact zero16_at j hj
  · unfold World.frozen?
    rw [heap_alloc_new]
    simp
theorem size_alloc' (w : World) (o : Obj) : (w.alloc o).heap.size = w.heap.size + 1 := by
  show (w.heap.push o).size = _
  simp
theorem two_rows {w w' : World} (h : Below ((w.alloc (.cells zero16 92)).alloc (.cells zero16 92)).heap.size ((w.alloc (.cells zero16 92)).alloc (.cells zero16 92)) w') :
    RowAt w' w.heap.size (fun _ => 0) ∧ RowAt w' (w.heap.size + 1) (fun _ => 0) ∧ Below w.heap.size w w' ∧ w.heap.size + 1 < w'.heap.size := by
  have e1 := size_alloc' w (.cells zero16 92)
  have e2 := size_alloc' (w.alloc (.cells zero16 92)) (.cells zero16 92)
  have b1 := below_box1 (w.alloc (.cells zero16 92)) (.cells zero16 92)
  have r1 := rowAt_new (w.alloc (.cells zero16 92))
  rw [e1] at r1
  have hs := h.size
  refine ⟨((rowAt_new w).below b1 (by omega)).below h (by omega), r1.below h (by omega), ?_, by omega⟩
  exact below_next (below_next (below_box1 w _) b1) h
set_option maxRecDepth 100000 in
set_option maxHeartbeats 1000000 in
theorem c49 (s : ByteArray) (hs : 8 ≤ s.size) (w : World) :
    Calls Tryz.prog 61 #[.string s] w fun e w' => e = .returned (.agg (keysL (bl s)).toArray) ∧ Below w.heap.size w w' := by
  have C75 := Lib.hid (c75 s hs)
  have hN := number_lt (bl s)
  have hP : partN (bl s) < 2 ^ 56 := takeN_lt firstN _ 64
  go_enter Tryz.func61, Tryz.ntmps61
  go_wp2_with (first
    | (go_at_call 79; refine (c74 _).mono ?_; rintro e w74 ⟨A74, k74, rfl, hc74, hr74, hb74⟩; have HR74 := Lib.hid hr74; have HB74 := Lib.hid hb74; clear hr74 hb74)
    | (go_at_call 63; (with_reducible refine (C75.out _).mono ?_); rintro e w75 ⟨m75, rfl, rfl⟩)
    | (go_at_call 78; (refine (c73 firstN 56 rfl (numB ((bl s).take 8)) 64 hN (by decide) (by decide) (by decide) A74 k74 _ (Kd.C_drewN HR74.out _) hc74).mono ?_); rintro e w' ⟨n73, rfl, rfl⟩; have hpn : (takeN firstN (numB ((bl s).take 8)) 64) = partN (bl s) := rfl; rw [hpn]; clear hpn))
  have hx1 : partN (bl s) / 268435456 < 2 ^ 28 := by omega
  have hx2 : partN (bl s) % 268435456 < 2 ^ 28 := Nat.mod_lt _ (by decide)
  have hand : Go.bits .and .u64 ((partN (bl s) : Nat) : Int) 268435455 = ((partN (bl s) % 268435456 : Nat) : Int) := by
    rw [show (268435455 : Int) = ((268435455 : Nat) : Int) from rfl, u64_and_nat _ _ (by omega) (by decide)]
    have := Nat.and_two_pow_sub_one_eq_mod (partN (bl s)) 28
    rw [show (2 : Nat) ^ 28 - 1 = 268435455 from rfl] at this
    rw [this]
  obtain ⟨hR0, hR1, hB0, hlt⟩ := two_rows HB74.out
  have HR0 := Lib.hid (hR0.below (below_drewN2 _ _ (m75 + n73)) (by omega))
  have HR1 := Lib.hid (hR1.below (below_drewN2 _ _ (m75 + n73)) (by omega))
  have HB0 := Lib.hid (hB0.trans (below_drewN2 _ _ (m75 + n73)))
  have HL := Lib.hid (show w.heap.size + 1 < (w74.drewN (m75 + n73)).heap.size by rw [size_drewN'']; exact hlt)
  clear hR0 hR1 hB0 hlt HR74 HB74 C75
  rw [hand]
  clear hand
  go_loopg [5, 6, 17] 16 (fun kq v5 v6 v17 w' => ∃ i : Nat, i + kq = 16 ∧ v5 = .int .u64 ((halfTo (partN (bl s) / 268435456) i : Nat) : Int) ∧ v6 = .int .u64 ((halfTo (partN (bl s) % 268435456) i : Nat) : Int) ∧ v17 = .int .i64 (i : Int) ∧
    Hid (RowAt w' w.heap.size (fun _ => 0)) ∧ Hid (RowAt w' (w.heap.size + 1) (fun j => if j < i then keyN (bl s) j else 0)) ∧ Hid (Below w.heap.size w w') ∧ Hid (w.heap.size + 1 < w'.heap.size))
  case atStart => exact ⟨0, rfl, by rfl, rfl, rfl, HR0, HR1, HB0, HL⟩
  case round =>
    obtain ⟨i, hi, rfl, rfl, rfl, R0, R1, HB, HL'⟩ := hrel
    by_cases h16 : i < 16
    · have hlt : decide ((i : Int) < 16) = true := decide_eq_true (by omega)
      have l1 := halfTo_lt _ hx1 i
      have l2 := halfTo_lt _ hx2 i
      have C76a := Lib.hid (c76_1 _ l1)
      have C76b := Lib.hid (c76_1 _ l2)
      have D76a := Lib.hid (c76_2 _ l1)
      have D76b := Lib.hid (c76_2 _ l2)
      by_cases e0 : i = 0 ∨ i = 1 ∨ i = 8 ∨ i = 15
      · rcases e0 with rfl | rfl | rfl | rfl
        · have hby : byN 0 = 1 := rfl
          go_wp2_with (first
            | (go_at_call 80; (first | (with_reducible refine (C76a.out _).mono ?_) | (with_reducible refine (C76b.out _).mono ?_)); rintro e w' ⟨n76, rfl, rfl⟩)
            | (go_at_call 81; refine (c77 _).mono ?_; rintro e w77 ⟨A77, k77, rfl, hc77, hr77, hb77⟩; have HR77 := Lib.hid hr77; have HB77 := Lib.hid (below_next (below_drewN2 _ _ _) hb77); clear hr77 hb77;
                obtain ⟨hce, hfr⟩ := (R1.out.below HB77.out HL'.out) 0 h16)
            | (go_at_call 78; rw [join28 _ _ (halfN_lt _ _) (halfN_lt _ _)]; (with_reducible refine (c73s _ (Nat.lt_of_lt_of_le (join_lt _ _ (halfN_lt _ _) (halfN_lt _ _)) (by decide)) A77 k77 _ HR77.out hc77).mono ?_); rintro e w' ⟨n73b, rfl, rfl⟩))
          go_roundg (gk - 1)
          case measure => omega
          case rel => exact ⟨0 + 1, by omega, by rw [halfTo_of _ _ _ hby], by rw [halfTo_of _ _ _ hby], by rfl, Lib.hid (((R0.out.below HB77.out (Nat.lt_of_succ_lt HL'.out)).below (below_drewN2 _ _ n73b) (Nat.lt_of_lt_of_le (Nat.lt_of_succ_lt HL'.out) HB77.out.size)).other (Nat.succ_ne_self _) _),
              Lib.hid (((R1.out.below HB77.out HL'.out).below (below_drewN2 _ _ n73b) (Nat.lt_of_lt_of_le HL'.out HB77.out.size)).key h16 _ (key_v _ _ _ hby)),
              Lib.hid (((below_next HB.out HB77.out).trans (below_drewN2 _ _ n73b)).setCell (Nat.le_succ _) _), Lib.hid (by rw [World.size_setCell, size_drewN'']; exact Nat.lt_of_lt_of_le HL'.out HB77.out.size)⟩
        · have hby : byN 1 = 1 := rfl
          go_wp2_with (first
            | (go_at_call 80; (first | (with_reducible refine (C76a.out _).mono ?_) | (with_reducible refine (C76b.out _).mono ?_)); rintro e w' ⟨n76, rfl, rfl⟩)
            | (go_at_call 81; refine (c77 _).mono ?_; rintro e w77 ⟨A77, k77, rfl, hc77, hr77, hb77⟩; have HR77 := Lib.hid hr77; have HB77 := Lib.hid (below_next (below_drewN2 _ _ _) hb77); clear hr77 hb77;
                obtain ⟨hce, hfr⟩ := (R1.out.below HB77.out HL'.out) 1 h16)
            | (go_at_call 78; rw [join28 _ _ (halfN_lt _ _) (halfN_lt _ _)]; (with_reducible refine (c73s _ (Nat.lt_of_lt_of_le (join_lt _ _ (halfN_lt _ _) (halfN_lt _ _)) (by decide)) A77 k77 _ HR77.out hc77).mono ?_); rintro e w' ⟨n73b, rfl, rfl⟩))
          go_roundg (gk - 1)
          case measure => omega
          case rel => exact ⟨1 + 1, by omega, by rw [halfTo_of _ _ _ hby], by rw [halfTo_of _ _ _ hby], by rfl, Lib.hid (((R0.out.below HB77.out (Nat.lt_of_succ_lt HL'.out)).below (below_drewN2 _ _ n73b) (Nat.lt_of_lt_of_le (Nat.lt_of_succ_lt HL'.out) HB77.out.size)).other (Nat.succ_ne_self _) _),
              Lib.hid (((R1.out.below HB77.out HL'.out).below (below_drewN2 _ _ n73b) (Nat.lt_of_lt_of_le HL'.out HB77.out.size)).key h16 _ (key_v _ _ _ hby)),
              Lib.hid (((below_next HB.out HB77.out).trans (below_drewN2 _ _ n73b)).setCell (Nat.le_succ _) _), Lib.hid (by rw [World.size_setCell, size_drewN'']; exact Nat.lt_of_lt_of_le HL'.out HB77.out.size)⟩
        · have hby : byN 8 = 1 := rfl
          go_wp2_with (first
            | (go_at_call 80; (first | (with_reducible refine (C76a.out _).mono ?_) | (with_reducible refine (C76b.out _).mono ?_)); rintro e w' ⟨n76, rfl, rfl⟩)
            | (go_at_call 81; refine (c77 _).mono ?_; rintro e w77 ⟨A77, k77, rfl, hc77, hr77, hb77⟩; have HR77 := Lib.hid hr77; have HB77 := Lib.hid (below_next (below_drewN2 _ _ _) hb77); clear hr77 hb77;
                obtain ⟨hce, hfr⟩ := (R1.out.below HB77.out HL'.out) 8 h16)
            | (go_at_call 78; rw [join28 _ _ (halfN_lt _ _) (halfN_lt _ _)]; (with_reducible refine (c73s _ (Nat.lt_of_lt_of_le (join_lt _ _ (halfN_lt _ _) (halfN_lt _ _)) (by decide)) A77 k77 _ HR77.out hc77).mono ?_); rintro e w' ⟨n73b, rfl, rfl⟩))
          go_roundg (gk - 1)
          case measure => omega
          case rel => exact ⟨8 + 1, by omega, by rw [halfTo_of _ _ _ hby], by rw [halfTo_of _ _ _ hby], by rfl, Lib.hid (((R0.out.below HB77.out (Nat.lt_of_succ_lt HL'.out)).below (below_drewN2 _ _ n73b) (Nat.lt_of_lt_of_le (Nat.lt_of_succ_lt HL'.out) HB77.out.size)).other (Nat.succ_ne_self _) _),
              Lib.hid (((R1.out.below HB77.out HL'.out).below (below_drewN2 _ _ n73b) (Nat.lt_of_lt_of_le HL'.out HB77.out.size)).key h16 _ (key_v _ _ _ hby)),
              Lib.hid (((below_next HB.out HB77.out).trans (below_drewN2 _ _ n73b)).setCell (Nat.le_succ _) _), Lib.hid (by rw [World.size_setCell, size_drewN'']; exact Nat.lt_of_lt_of_le HL'.out HB77.out.size)⟩
        · have hby : byN 15 = 1 := rfl
          go_wp2_with (first
            | (go_at_call 80; (first | (with_reducible refine (C76a.out _).mono ?_) | (with_reducible refine (C76b.out _).mono ?_)); rintro e w' ⟨n76, rfl, rfl⟩)
            | (go_at_call 81; refine (c77 _).mono ?_; rintro e w77 ⟨A77, k77, rfl, hc77, hr77, hb77⟩; have HR77 := Lib.hid hr77; have HB77 := Lib.hid (below_next (below_drewN2 _ _ _) hb77); clear hr77 hb77;
                obtain ⟨hce, hfr⟩ := (R1.out.below HB77.out HL'.out) 15 h16)
            | (go_at_call 78; rw [join28 _ _ (halfN_lt _ _) (halfN_lt _ _)]; (with_reducible refine (c73s _ (Nat.lt_of_lt_of_le (join_lt _ _ (halfN_lt _ _) (halfN_lt _ _)) (by decide)) A77 k77 _ HR77.out hc77).mono ?_); rintro e w' ⟨n73b, rfl, rfl⟩))
          go_roundg (gk - 1)
          case measure => omega
          case rel => exact ⟨15 + 1, by omega, by rw [halfTo_of _ _ _ hby], by rw [halfTo_of _ _ _ hby], by rfl, Lib.hid (((R0.out.below HB77.out (Nat.lt_of_succ_lt HL'.out)).below (below_drewN2 _ _ n73b) (Nat.lt_of_lt_of_le (Nat.lt_of_succ_lt HL'.out) HB77.out.size)).other (Nat.succ_ne_self _) _),
              Lib.hid (((R1.out.below HB77.out HL'.out).below (below_drewN2 _ _ n73b) (Nat.lt_of_lt_of_le HL'.out HB77.out.size)).key h16 _ (key_v _ _ _ hby)),
              Lib.hid (((below_next HB.out HB77.out).trans (below_drewN2 _ _ n73b)).setCell (Nat.le_succ _) _), Lib.hid (by rw [World.size_setCell, size_drewN'']; exact Nat.lt_of_lt_of_le HL'.out HB77.out.size)⟩
      · have hby : byN i = 2 := if_neg e0
        have n0 : ((i : Int) == 0) = false := beq_eq_false_iff_ne.mpr (by omega)
        have n1 : ((i : Int) == 1) = false := beq_eq_false_iff_ne.mpr (by omega)
        have n8 : ((i : Int) == 8) = false := beq_eq_false_iff_ne.mpr (by omega)
        have n15 : ((i : Int) == 15) = false := beq_eq_false_iff_ne.mpr (by omega)
        go_wp2_with (first
          | (go_at_call 80; (first | (with_reducible refine (D76a.out _).mono ?_) | (with_reducible refine (D76b.out _).mono ?_)); rintro e w' ⟨n76, rfl, rfl⟩)
          | (go_at_call 81; refine (c77 _).mono ?_; rintro e w77 ⟨A77, k77, rfl, hc77, hr77, hb77⟩; have HR77 := Lib.hid hr77; have HB77 := Lib.hid (below_next (below_drewN2 _ _ _) hb77); clear hr77 hb77;
              obtain ⟨hce, hfr⟩ := (R1.out.below HB77.out HL'.out) i h16)
          | (go_at_call 78; rw [join28 _ _ (halfN_lt _ _) (halfN_lt _ _)]; (with_reducible refine (c73s _ (Nat.lt_of_lt_of_le (join_lt _ _ (halfN_lt _ _) (halfN_lt _ _)) (by decide)) A77 k77 _ HR77.out hc77).mono ?_); rintro e w' ⟨n73b, rfl, rfl⟩))
        go_roundg (gk - 1)
        case measure => omega
        case rel => exact ⟨i + 1, by omega, by rw [halfTo_of _ _ _ hby], by rw [halfTo_of _ _ _ hby], by rfl, Lib.hid (((R0.out.below HB77.out (Nat.lt_of_succ_lt HL'.out)).below (below_drewN2 _ _ n73b) (Nat.lt_of_lt_of_le (Nat.lt_of_succ_lt HL'.out) HB77.out.size)).other (Nat.succ_ne_self _) _),
            Lib.hid (((R1.out.below HB77.out HL'.out).below (below_drewN2 _ _ n73b) (Nat.lt_of_lt_of_le HL'.out HB77.out.size)).key h16 _ (key_v _ _ _ hby)),
            Lib.hid (((below_next HB.out HB77.out).trans (below_drewN2 _ _ n73b)).setCell (Nat.le_succ _) _), Lib.hid (by rw [World.size_setCell, size_drewN'']; exact Nat.lt_of_lt_of_le HL'.out HB77.out.size)⟩
    · have hlt : decide ((i : Int) < 16) = false := decide_eq_false (by omega)
      obtain rfl : i = 16 := by omega
      have hK := keysL_at R1.out
      have hT := there16 R0.out
      go_wp2_with (first
        | (refine wpList_load_mid (P := Tryz.prog) rfl 92 (.tmp 3) rfl (w.heap.size + 1) 0 rfl (keysL (bl s)) _ hK Tryz.underlying92 rfl (info70 _) ?_)
        | (refine wpList_store_mid (P := Tryz.prog) rfl 92 (.tmp 2) (.tmp 49) rfl w.heap.size 0 (keysL (bl s)).toArray rfl rfl (by simpa [keysL] using hT) (by simpa using info70 (bl s)) (all_oneCell_toArray (keysL_one _)) ?_))
      (try simp only [Exit.inBlock, Exit.then])
      refine bodyPost_ret (results_cell_mid rfl _ _ w.heap.size (keysL (bl s)) _ rfl (World.rangeAt_setCells_same _ _ _ _ (by simpa [keysL] using hT)) Tryz.underlying92 rfl (info70 _)) rfl ?_
      exact ⟨rfl, below_cells _ (Nat.le_refl _) _ _ HB.out⟩
end Go.Proofs.YtkjjdodnkcmeiaaGreatDoor.PX
namespace Go.Proofs.YtkjjdodnkcmeiaaGreatDoor.PX
open Go.RowKit Go.Proofs.YtkjjdodnkcmeiaaGreatDoorW.PrintWords Go.Proofs.YtkjjdodnkcmeiaaGreatDoorW.PrintLast Go.Proofs.YtkjjdodnkcmeiaaGreatDoorW.PrintMore

theorem c48 (s : ByteArray) (hs : s.size = 16) (w : World) : Calls Tryz.prog 60 #[.string s] w fun e w' => e = .returned (.int .i64 2) ∧ Below w.heap.size w w' := by
  refine (cipher_kind.calls s 2 w (by unfold cipher_kind.f; rw [if_neg (by omega), if_pos (by omega)])).mono ?_
  rintro e w' ⟨rfl, ⟨m, rfl⟩⟩
  exact ⟨rfl, below_drewN2 _ _ _⟩
/-- A block of 48 numbers, and its kind. -/
structure BlkAt (W : World) (g : Nat) (f : Nat → Nat) : Prop where
  lt : g < W.heap.size
  at_ : ∀ j, j < 48 → W.cell? ⟨g, j, none⟩ = some (.int .u64 (f j : Int)) ∧ W.frozen? ⟨g, j, none⟩ = false
  kind : W.cell? ⟨g, 48, none⟩ = some (.int .i64 2)
theorem BlkAt.below {W W' : World} {g : Nat} {f : Nat → Nat} (h : BlkAt W g f) (hb : Below W.heap.size W W') : BlkAt W' g f :=
  ⟨Nat.lt_of_lt_of_le h.lt hb.size, fun j hj => ⟨by rw [hb.cell h.lt]; exact (h.at_ j hj).1, by rw [hb.frozen h.lt]; exact (h.at_ j hj).2⟩, by rw [hb.cell h.lt]; exact h.kind⟩
theorem size_setCells (b : Nat) : ∀ (vs : List Value) (o : Nat) (w : World), (w.setCells b o vs).heap.size = w.heap.size
  | [], _, _ => rfl
  | v :: vs, o, w => by
    show ((w.setCell ⟨b, o, none⟩ v).setCells b (o + 1) vs).heap.size = _
    rw [size_setCells b vs (o + 1), World.size_setCell]
theorem BlkAt.there {W : World} {g : Nat} {f : Nat → Nat} (h : BlkAt W g f) (o : Nat) (ho : o ≤ 32) : W.there g o 16 := by
  intro j hj
  rw [(h.at_ (o + j) (by omega)).1]
  exact ⟨rfl, (h.at_ (o + j) (by omega)).2⟩
theorem below_drewd (w : World) : Below w.heap.size w w.drew := (Below.refl _ w).drew
theorem keysL_length (s : List UInt8) : (keysL s).length = 16 := by simp [keysL]
theorem BlkAt.putL {W : World} {g : Nat} {f : Nat → Nat} (h : BlkAt W g f) (o : Nat) (ho : o ≤ 32) (cs : List Value) (hl : cs.length = 16) (h1 : ∀ v ∈ cs, v.oneCell' = true) :
    (storeCells ⟨g, o, none⟩ cs).run Tryz.prog W = .ok () (W.setCells g o cs) := by
  have ht := h.there o ho
  have := run_storeCells_cells (P := Tryz.prog) g o cs 0 W (fun j hj => by simpa using (ht j (by omega)).1) (fun j hj => by simpa using (ht j (by omega)).2) h1
  simpa using this
theorem BlkAt.setL {W : World} {g : Nat} {f : Nat → Nat} (h : BlkAt W g f) (o : Nat) (ho : o ≤ 32) (k : Nat → Nat) :
    BlkAt (W.setCells g o ((List.range 16).map fun i => Value.int .u64 (k i : Int))) g (fun j => if o ≤ j ∧ j < o + 16 then k (j - o) else f j) := by
  have hl : ((List.range 16).map fun i => Value.int .u64 (k i : Int)).length = 16 := by simp
  refine ⟨by rw [size_setCells]; exact h.lt, fun j hj => ⟨?_, ?_⟩, ?_⟩
  · by_cases e : o ≤ j ∧ j < o + 16
    · rw [if_pos e]
      have hin := World.cell?_setCells_in g ((List.range 16).map fun i => Value.int .u64 (k i : Int)) o W (fun i hi => (h.there o ho i (by omega)).1) (j - o) (by omega)
      rw [show o + (j - o) = j by omega] at hin
      rw [hin]
      simp
    · rw [if_neg e, World.cell?_setCells_out g _ o W ⟨g, j, none⟩ (fun _ _ => by rw [hl]; show j < o ∨ o + 16 ≤ j; omega)]
      exact (h.at_ j hj).1
  · rw [World.frozen?_setCells]; exact (h.at_ j hj).2
  · rw [World.cell?_setCells_out g _ o W ⟨g, 48, none⟩ (fun _ _ => by rw [hl]; show 48 < o ∨ o + 16 ≤ 48; omega)]
    exact h.kind
theorem BlkAt.put {W : World} {g : Nat} {f : Nat → Nat} (h : BlkAt W g f) (o : Nat) (ho : o ≤ 32) (s : List UInt8) :
    (storeCells ⟨g, o, none⟩ (keysL s)).run Tryz.prog W = .ok () (W.setCells g o (keysL s)) := h.putL o ho _ (keysL_length s) (keysL_one s)
theorem BlkAt.set {W : World} {g : Nat} {f : Nat → Nat} (h : BlkAt W g f) (o : Nat) (ho : o ≤ 32) (s : List UInt8) :
    BlkAt (W.setCells g o (keysL s)) g (fun j => if o ≤ j ∧ j < o + 16 then keyN s (j - o) else f j) := h.setL o ho (keyN s)
theorem lits16 (f : Nat → Nat) : ((List.range 16).map fun i => Value.int .u64 (f i : Int)) = [Value.int .u64 (f 0 : Int), Value.int .u64 (f 1 : Int), Value.int .u64 (f 2 : Int), Value.int .u64 (f 3 : Int), Value.int .u64 (f 4 : Int), Value.int .u64 (f 5 : Int), Value.int .u64 (f 6 : Int), Value.int .u64 (f 7 : Int), Value.int .u64 (f 8 : Int), Value.int .u64 (f 9 : Int), Value.int .u64 (f 10 : Int), Value.int .u64 (f 11 : Int), Value.int .u64 (f 12 : Int), Value.int .u64 (f 13 : Int), Value.int .u64 (f 14 : Int), Value.int .u64 (f 15 : Int)] := rfl
theorem one16 (f : Nat → Nat) : ∀ v ∈ [Value.int .u64 (f 0 : Int), Value.int .u64 (f 1 : Int), Value.int .u64 (f 2 : Int), Value.int .u64 (f 3 : Int), Value.int .u64 (f 4 : Int), Value.int .u64 (f 5 : Int), Value.int .u64 (f 6 : Int), Value.int .u64 (f 7 : Int), Value.int .u64 (f 8 : Int), Value.int .u64 (f 9 : Int), Value.int .u64 (f 10 : Int), Value.int .u64 (f 11 : Int), Value.int .u64 (f 12 : Int), Value.int .u64 (f 13 : Int), Value.int .u64 (f 14 : Int), Value.int .u64 (f 15 : Int)], v.oneCell' = true := by
  intro v hv
  have : v ∈ (List.range 16).map fun i => Value.int .u64 (f i : Int) := hv
  obtain ⟨i, _, rfl⟩ := List.mem_map.1 this
  rfl
theorem keyAt_of {W : World} {g : Nat} {F k0 k1 : Nat → Nat} (h : BlkAt W g F) (h0 : ∀ j, j < 16 → F j = k0 j) (h1 : ∀ j, j < 16 → F (16 + j) = k1 j) (h2 : ∀ j, j < 16 → F (32 + j) = k0 j) : KeyAt W g k0 k1 :=
  ⟨h.lt, fun j hj => by rw [Nat.zero_add, ← h0 j hj]; exact (h.at_ j (by omega)).1, fun j hj => by rw [← h1 j hj]; exact (h.at_ (16 + j) (by omega)).1, fun j hj => by rw [← h2 j hj]; exact (h.at_ (32 + j) (by omega)).1, h.kind⟩
theorem slice_of (s : ByteArray) (a b : Nat) (hab : a ≤ b) (hb : b ≤ s.size) (W : World) : (Instr.slice 9 (.string s) (some (.int .i64 (a : Int))) (some (.int .i64 (b : Int))) none).run Tryz.prog W = .ok (.string (s.extract a b)) W := by
  have hz := run_slice_string_if (P := Tryz.prog) (w := W) 9 s .i64 .i64 (a : Int) (b : Int) Tryz.underlying9
  rw [if_pos ⟨by omega, by omega⟩, if_pos ⟨by omega, by omega⟩, Int.toNat_natCast, Int.toNat_natCast] at hz
  exact hz
def blk49 : Array Value := (List.replicate 48 (Value.int .u64 0) ++ [Value.int .i64 2]).toArray
theorem blk49_at (j : Nat) (h : j < 48) : blk49[j]? = some (.int .u64 ((0 : Nat) : Int)) := by
  unfold blk49
  rw [List.getElem?_toArray, List.getElem?_append_left (by simpa using h), List.getElem?_replicate, if_pos h]
  rfl
theorem blk_new (w : World) : BlkAt (w.alloc (.cells blk49 95)) w.heap.size (fun _ => 0) := by
  have hg := heap_alloc_new w (.cells blk49 95)
  refine ⟨by rw [size_alloc']; omega, fun j hj => ⟨?_, ?_⟩, ?_⟩
  · rw [cell_of_row _ w.heap.size j blk49 95 (0, 0) hg]
    exact blk49_at j hj
  · unfold World.frozen?
    rw [hg]
    simp
  · rw [cell_of_row _ w.heap.size 48 blk49 95 (0, 0) hg]
    rfl
theorem c49x (s : ByteArray) (hs : s.size = 16) (i : Nat) (hi : i ≤ 1) (w : World) :
    Calls Tryz.prog 61 #[.string (s.extract (8 * i) (8 * i + 8))] w fun e w' => e = .returned (.agg (keysL (((bl s).drop (8 * i)).take 8)).toArray) ∧ Below w.heap.size w w' := by
  have hb : bl (s.extract (8 * i) (8 * i + 8)) = ((bl s).drop (8 * i)).take 8 := by
    rw [bl_extract, List.extract_eq_take_drop, show 8 * i + 8 - 8 * i = 8 by omega]
  have h := c49 (s.extract (8 * i) (8 * i + 8)) (by rw [← bl_length, hb, List.length_take, List.length_drop, bl_length]; omega) w
  rwa [hb] at h
set_option maxRecDepth 100000 in
set_option maxHeartbeats 1000000 in
theorem c24 (s : ByteArray) (hs : s.size = 16) (w : World) :
    Calls Tryz.prog 30 #[.string s] w fun e w' => ∃ g, e = .returned (.tuple #[.pointer (some ⟨g, 0, none⟩), .int .i64 0]) ∧ w.heap.size ≤ g ∧ KeyAt w' g (keyN ((bl s).take 8)) (keyN (((bl s).drop 8).take 8)) ∧ Below w.heap.size w w' := by
  have C49a := Lib.hid (show ∀ w, Calls Tryz.prog 61 #[.string (s.extract 0 8)] w fun e w' => e = .returned (.agg (keysL ((bl s).take 8)).toArray) ∧ Below w.heap.size w w' from c49x s hs 0 (by omega))
  have C49b := Lib.hid (show ∀ w, Calls Tryz.prog 61 #[.string (s.extract 8 16)] w fun e w' => e = .returned (.agg (keysL (((bl s).drop 8).take 8)).toArray) ∧ Below w.heap.size w w' from c49x s hs 1 (by omega))
  go_enter Tryz.func30, Tryz.ntmps30
  go_wp2_with (first | (go_at_call 60; refine (c48 s hs _).mono ?_; rintro e w48 ⟨rfl, hb48⟩; have HB48 := Lib.hid hb48; clear hb48))
  have HB0 := Lib.hid (below_next HB48.out (below_box1 w48 (.cells blk49 95)))
  have HK0 := Lib.hid (blk_new w48)
  have HG := Lib.hid HB48.out.size
  go_loopg [19] 2 (fun kq v19 w' => ∃ (i : Nat) (f : Nat → Nat), i + kq = 2 ∧ v19 = .int .i64 (i : Int) ∧ Hid (BlkAt w' w48.heap.size f) ∧ Hid (1 ≤ i → ∀ j, j < 16 → f j = keyN ((bl s).take 8) j) ∧ Hid (2 ≤ i → ∀ j, j < 16 → f (16 + j) = keyN (((bl s).drop 8).take 8) j) ∧ Hid (Below w.heap.size w w'))
  case atStart => exact ⟨0, _, rfl, rfl, HK0, Lib.hid (fun h => by omega), Lib.hid (fun h => by omega), HB0⟩
  case round =>
    clear HB0 HK0
    obtain ⟨i, f, hi, rfl, HK, H1, H2, HB⟩ := hrel
    obtain rfl | rfl | rfl : i = 0 ∨ i = 1 ∨ i = 2 := by omega
    · go_wp2
      have st49 := fun w49 (hb : Below wr.heap.size wr w49) => (HK.out.below hb).put 0 (by omega) ((bl s).take 8)
      have kl := keysL_length ((bl s).take 8)
      have q0 : IntKind.i64.wrap 0 = 0 := by decide
      have q8 : IntKind.i64.wrap 8 = 8 := by decide
      have sl := fun W => slice_of s 0 8 (by omega) (by omega) W
      have ST := Lib.hid st49
      clear st49
      go_region_law (first | (go_simp; go_at_call 61; (with_reducible refine (C49a.out _).mono ?_); rintro e w49 ⟨rfl, hb49⟩; have hst := ST.out w49 ((below_drewd wr).trans hb49); have HB49 := Lib.hid (show Below wr.heap.size wr w49 from (below_drewd wr).trans hb49); clear hb49))
      have HK2 := Lib.hid ((HK.out.below HB49.out).set 0 (by omega) ((bl s).take 8))
      have HB2 := Lib.hid (below_cells w48.heap.size HG.out (keysL ((bl s).take 8)) 0 (below_next HB.out HB49.out))
      go_wp2
      go_roundg (gk - 1)
      case measure => omega
      case rel => exact ⟨1, _, by omega, rfl, HK2, Lib.hid (fun _ j hj => if_pos ⟨by omega, by omega⟩), Lib.hid (fun h j hj => by omega), HB2⟩
    · go_wp2
      have st49 := fun w49 (hb : Below wr.heap.size wr w49) => (HK.out.below hb).put 16 (by omega) (((bl s).drop 8).take 8)
      have kl := keysL_length (((bl s).drop 8).take 8)
      have q1 : IntKind.i64.wrap 1 = 1 := by decide
      have q8 : IntKind.i64.wrap 8 = 8 := by decide
      have q16 : IntKind.i64.wrap 16 = 16 := by decide
      have sl := fun W => slice_of s 8 16 (by omega) (by omega) W
      have ST := Lib.hid st49
      clear st49
      go_region_law (first | (go_simp; go_at_call 61; (with_reducible refine (C49b.out _).mono ?_); rintro e w49 ⟨rfl, hb49⟩; have hst := ST.out w49 ((below_drewd wr).trans hb49); have HB49 := Lib.hid (show Below wr.heap.size wr w49 from (below_drewd wr).trans hb49); clear hb49))
      have HK2 := Lib.hid ((HK.out.below HB49.out).set 16 (by omega) (((bl s).drop 8).take 8))
      have HB2 := Lib.hid (below_cells w48.heap.size HG.out (keysL (((bl s).drop 8).take 8)) 16 (below_next HB.out HB49.out))
      go_wp2
      go_roundg (gk - 1)
      case measure => omega
      case rel => exact ⟨2, _, by omega, rfl, HK2, Lib.hid (fun _ j hj => (if_neg (by omega)).trans (H1.out (by omega) j hj)), Lib.hid (fun h j hj => (if_pos ⟨by omega, by omega⟩).trans (by rw [show 16 + j - 16 = j by omega])), HB2⟩
    · have hk := HK.out.kind
      have k0 := (HK.out.at_ 0 (by omega)).1
      have k1 := (HK.out.at_ 1 (by omega)).1
      have k2 := (HK.out.at_ 2 (by omega)).1
      have k3 := (HK.out.at_ 3 (by omega)).1
      have k4 := (HK.out.at_ 4 (by omega)).1
      have k5 := (HK.out.at_ 5 (by omega)).1
      have k6 := (HK.out.at_ 6 (by omega)).1
      have k7 := (HK.out.at_ 7 (by omega)).1
      have k8 := (HK.out.at_ 8 (by omega)).1
      have k9 := (HK.out.at_ 9 (by omega)).1
      have k10 := (HK.out.at_ 10 (by omega)).1
      have k11 := (HK.out.at_ 11 (by omega)).1
      have k12 := (HK.out.at_ 12 (by omega)).1
      have k13 := (HK.out.at_ 13 (by omega)).1
      have k14 := (HK.out.at_ 14 (by omega)).1
      have k15 := (HK.out.at_ 15 (by omega)).1
      obtain ⟨c32, f32⟩ := HK.out.at_ 32 (by omega)
      obtain ⟨c33, f33⟩ := HK.out.at_ 33 (by omega)
      obtain ⟨c34, f34⟩ := HK.out.at_ 34 (by omega)
      obtain ⟨c35, f35⟩ := HK.out.at_ 35 (by omega)
      obtain ⟨c36, f36⟩ := HK.out.at_ 36 (by omega)
      obtain ⟨c37, f37⟩ := HK.out.at_ 37 (by omega)
      obtain ⟨c38, f38⟩ := HK.out.at_ 38 (by omega)
      obtain ⟨c39, f39⟩ := HK.out.at_ 39 (by omega)
      obtain ⟨c40, f40⟩ := HK.out.at_ 40 (by omega)
      obtain ⟨c41, f41⟩ := HK.out.at_ 41 (by omega)
      obtain ⟨c42, f42⟩ := HK.out.at_ 42 (by omega)
      obtain ⟨c43, f43⟩ := HK.out.at_ 43 (by omega)
      obtain ⟨c44, f44⟩ := HK.out.at_ 44 (by omega)
      obtain ⟨c45, f45⟩ := HK.out.at_ 45 (by omega)
      obtain ⟨c46, f46⟩ := HK.out.at_ 46 (by omega)
      obtain ⟨c47, f47⟩ := HK.out.at_ 47 (by omega)
      go_wp2
      go_region_law fail
      go_wp2
      go_ret2
      have hfin := (HK.out.below (below_drewd wr)).setL 32 (by omega) f
      have hB3 := below_cells w48.heap.size HG.out ((List.range 16).map fun i => Value.int .u64 (f i : Int)) 32 (HB.out.trans ((below_drewd wr).mono HB.out.size))
      rw [lits16] at hfin hB3
      simp only [World.setCells, Nat.reduceAdd, World.setCell_drew] at hfin hB3
      refine ⟨w48.heap.size, rfl, HG.out, ?_, ?_⟩
      · (with_reducible refine keyAt_of hfin ?_ ?_ ?_)
        · exact fun j hj => (if_neg (by omega)).trans (H1.out (by omega) j hj)
        · exact fun j hj => (if_neg (by omega)).trans (H2.out (by omega) j hj)
        · exact fun j hj => (if_pos ⟨by omega, by omega⟩).trans (by rw [show 32 + j - 32 = j by omega]; exact H1.out (by omega) j hj)
      · with_reducible exact hB3
end Go.Proofs.YtkjjdodnkcmeiaaGreatDoor.PX
