/- strconv.Itoa of a number below 100; the document's digits. -/
import Derived.Test.YtlfiljebfnejbaaDoorLib
namespace Go.Proofs.YtlfiljebfnejbaaDoor
open Go.RowKit

/-- A number below 100, written. -/
def digS (n : Nat) : ByteArray := if n < 10 then ⟨#[UInt8.ofNat (48 + n)]⟩ else ⟨#[UInt8.ofNat (48 + n / 10), UInt8.ofNat (48 + n % 10)]⟩
theorem digS_size (n : Nat) : (digS n).size ≤ 2 := by unfold digS; split <;> simp [ByteArray.size]
set_option maxRecDepth 100000 in
theorem sm1 : ∀ n, n < 10 → (⟨#[48, 49, 50, 51, 52, 53, 54, 55, 56, 57, 97, 98, 99, 100, 101, 102, 103, 104, 105, 106, 107, 108, 109, 110, 111, 112, 113, 114, 115, 116, 117, 118, 119, 120, 121, 122]⟩ : ByteArray).extract n (n + 1) = digS n := by decide +kernel
set_option maxRecDepth 100000 in
theorem sm2 : ∀ n, n < 100 → ¬ n < 10 → (⟨#[48, 48, 48, 49, 48, 50, 48, 51, 48, 52, 48, 53, 48, 54, 48, 55, 48, 56, 48, 57, 49, 48, 49, 49, 49, 50, 49, 51, 49, 52, 49, 53, 49, 54, 49, 55, 49, 56, 49, 57, 50, 48, 50, 49, 50, 50, 50, 51, 50, 52, 50, 53, 50, 54, 50, 55, 50, 56, 50, 57, 51, 48, 51, 49, 51, 50, 51, 51, 51, 52, 51, 53, 51, 54, 51, 55, 51, 56, 51, 57, 52, 48, 52, 49, 52, 50, 52, 51, 52, 52, 52, 53, 52, 54, 52, 55, 52, 56, 52, 57, 53, 48, 53, 49, 53, 50, 53, 51, 53, 52, 53, 53, 53, 54, 53, 55, 53, 56, 53, 57, 54, 48, 54, 49, 54, 50, 54, 51, 54, 52, 54, 53, 54, 54, 54, 55, 54, 56, 54, 57, 55, 48, 55, 49, 55, 50, 55, 51, 55, 52, 55, 53, 55, 54, 55, 55, 55, 56, 55, 57, 56, 48, 56, 49, 56, 50, 56, 51, 56, 52, 56, 53, 56, 54, 56, 55, 56, 56, 56, 57, 57, 48, 57, 49, 57, 50, 57, 51, 57, 52, 57, 53, 57, 54, 57, 55, 57, 56, 57, 57]⟩ : ByteArray).extract (n * 2) (n * 2 + 2) = digS n := by decide +kernel
theorem sm3 : ∀ n, n < 10 → (⟨#[48, 49, 50, 51, 52, 53, 54, 55, 56, 57]⟩ : ByteArray).extract n (n + 1) = digS n := by decide +kernel
theorem sm4 : ∀ n, n < 100 → ¬ n < 10 → digS (n / 10) ++ digS (n % 10) = digS n := by decide +kernel
set_option maxRecDepth 100000 in
theorem small_any (n : Nat) (w : World) (hn : n < 100) : Calls Tryd.prog 28 #[.int .i64 n] w fun e w' => e = .returned (.string (digS n)) ∧ w = w' := by
  have h0 : (0 : Int) ≤ n := by omega
  have h1 : (n : Int) < 100 := by omega
  by_cases h10 : n < 10
  · have h2 : (n : Int) < 10 := by omega
    go_enter Tryd.func28, Tryd.ntmps28
    go_wp2
    go_ret
    exact ⟨congrArg (fun s => Ending.returned (.string s)) (sm1 n h10), rfl⟩
  · have h2 : ¬ (n : Int) < 10 := by omega
    go_enter Tryd.func28, Tryd.ntmps28
    go_wp2
    go_ret
    exact ⟨congrArg (fun s => Ending.returned (.string s)) (sm2 n hn h10), rfl⟩
theorem formatInt_any (n : Nat) (w : World) (hn : n < 100) : Calls Tryd.prog 27 #[.int .i64 n, .int .i64 10] w fun e w' => e = .returned (.string (digS n)) ∧ w = w' := by
  have h0 : (0 : Int) ≤ n := by omega
  have h1 : (n : Int) < 100 := by omega
  go_enter Tryd.func27, Tryd.ntmps27
  go_wp2_with fail
  refine (small_any _ _ hn).mono ?_
  rintro e w' ⟨rfl, rfl⟩
  go_wp2_with fail
  go_ret
  exact ⟨rfl, rfl⟩
theorem iitoa_any (n : Nat) (w : World) (hn : n < 100) : Calls Tryd.prog 26 #[.int .i64 n] w fun e w' => e = .returned (.string (digS n)) ∧ w = w' := by
  have h0 : (0 : Int) ≤ n := by omega
  have h1 : (n : Int) < 100 := by omega
  go_enter Tryd.func26, Tryd.ntmps26
  go_wp2_with fail
  refine (formatInt_any _ _ hn).mono ?_
  rintro e w' ⟨rfl, rfl⟩
  go_wp2_with fail
  go_ret
  exact ⟨rfl, rfl⟩
theorem itoa_any (n : Nat) (w : World) (hn : n < 100) : Calls Tryd.prog 23 #[.int .i64 n] w fun e w' => e = .returned (.string (digS n)) ∧ w = w' := by
  have h0 : (0 : Int) ≤ n := by omega
  have h1 : (n : Int) < 100 := by omega
  go_enter Tryd.func23, Tryd.ntmps23
  go_wp2_with fail
  refine (iitoa_any _ _ hn).mono ?_
  rintro e w' ⟨rfl, rfl⟩
  go_wp2_with fail
  go_ret
  exact ⟨rfl, rfl⟩

theorem app_nil (s : ByteArray) : s ++ (⟨#[]⟩ : ByteArray) = s := ByteArray.ext (by simp)
/-- The document's digits. -/
theorem rdigits_any (n : Nat) (w : World) (hn : n < 100) : Calls Tryd.prog 25 #[.int .i64 n] w fun e w' => e = .returned (.string (digS n)) ∧ w = w' := by
  by_cases h10 : n < 10
  · have h2 : ¬ (10 : Int) ≤ n := by omega
    have h3 : n + 1 ≤ 10 := by omega
    go_enter Tryd.func25, Tryd.ntmps25
    go_wp2_with fail
    go_loop [0, 3] (fun x s => x = .int .i64 n ∧ s = .string ⟨#[]⟩) (fun _ _ => 0)
    case atStart => exact ⟨rfl, rfl⟩
    case round =>
      obtain ⟨rfl, rfl⟩ := hrel
      go_wp2_with fail
      go_ret
      refine ⟨congrArg (fun s => Ending.returned (.string s)) ?_, rfl⟩
      exact (app_nil _).trans (sm3 n h10)
  · have h2 : (10 : Int) ≤ n := by omega
    obtain ⟨q, hq⟩ : ∃ q, q = n / 10 := ⟨_, rfl⟩
    obtain ⟨r, hr⟩ : ∃ r, r = n % 10 := ⟨_, rfl⟩
    have e1 : (n : Int) / 10 = q := by omega
    have e2 : (n : Int) % 10 = r := by omega
    have b1 : (q : Int) < 10 := by omega
    have b2 : (r : Int) < 10 := by omega
    have b3 : q + 1 ≤ 10 := by omega
    have b4 : r + 1 ≤ 10 := by omega
    have s1 := sm3 q (by omega)
    have s2 := sm3 r (by omega)
    have s3 := sm4 n hn h10
    rw [← hq, ← hr] at s3
    have S1 := hid s1; have S2 := hid s2; have S3 := hid s3
    have hnb : (n : Int) < 100 := by omega
    have hqn : q < n := by omega
    have hds : (digS r).size ≤ 2 := digS_size r
    have hds2 : ¬ 9223372036854775807 < 1 + (digS r).size := by omega
    clear hq hr s1 s2 s3
    go_enter Tryd.func25, Tryd.ntmps25
    go_wp2_with fail
    go_loop [0, 3] (fun x s => (x = .int .i64 n ∧ s = .string ⟨#[]⟩) ∨ (x = .int .i64 q ∧ s = .string (digS r))) (fun x _ => (intOf x).toNat)
    case atStart => exact .inl ⟨rfl, rfl⟩
    case round =>
      rcases hrel with ⟨rfl, rfl⟩ | ⟨rfl, rfl⟩
      · go_wp2_with fail
        go_round
        case rel => exact .inr ⟨rfl, congrArg Value.string ((app_nil _).trans S2.out)⟩
        case measure => simp [intOf]; omega
      · have h4 : ¬ (10 : Int) ≤ q := by omega
        go_wp2_with fail
        go_ret
        refine ⟨congrArg (fun s => Ending.returned (.string s)) ?_, rfl⟩
        rw [← S3.out, ← S1.out]
end Go.Proofs.YtlfiljebfnejbaaDoor
