/- The tokens' functions of the program: what each computes (the walks). -/
import Derived.Test.YtajefkjcfmfjkaaDoorTokP
import Derived.Test.YtajefkjcfmfjkaaDoorShelf
import Derived.Outline
import Derived.Shelf.Abstract
namespace Go.Proofs.YtajefkjcfmfjkaaDoor
open Go.RowKit Go.Proofs.YtajefkjcfmfjkaaDoorW.PrintWords Go.Proofs.YtajefkjcfmfjkaaDoor.PTokenPieces

structure Cls (f : FuncId) (p : UInt8 → Bool) : Prop where
  mk :: (out : ∀ (c : UInt8) (w : World), Calls Tryd.prog f #[.int .u8 c.toNat] w fun e w' => e = .returned (.bool (p c)) ∧ Drawn0 w w')

theorem ret_int {k : IntKind} {a b : Int} (h : a = b) : Ending.returned (.int k a) = .returned (.int k b) := by rw [h]
theorem ret_bool {a b : Bool} (h : a = b) : Ending.returned (.bool a) = .returned (.bool b) := by rw [h]

set_option maxHeartbeats 800000 in
set_option maxRecDepth 100000 in
theorem run_any (p : UInt8 → Bool) (f : FuncId) (hf : Cls f p) (eg : ∀ args w, (callFunc f args).run Tryd.prog w = .ok (.enter f args) w)
    (s : ByteArray) (i : Nat) (w : World) (hs : s.size ≤ 9223372036854775800) (hi : i ≤ s.size) :
    Calls Tryd.prog 52 #[.string s, .int .i64 i, .func (.func f) #[] #[]] w fun e w' => e = .returned (.int .i64 (runEnd p s i)) ∧ Drawn0 w w' := by
  go_enter Tryd.func52, Tryd.ntmps52
  go_wp2
  go_loopw [1] (fun v w' => ∃ k : Nat, k ≤ s.size ∧ v = .int .i64 k ∧ Aside0 (runEnd p s k = runEnd p s i) ∧ Drawn0 w w') (fun v _ => s.size - (intOf v).toNat)
  case atStart => exact ⟨i, hi, rfl, ⟨rfl⟩, Drawn0.refl _⟩
  case round =>
    obtain ⟨k, hk, rfl, hr, hd⟩ := hrel
    by_cases hlt : k < s.size
    · have hcall := hf.out s[k]
      have hcall' : Aside0 (∀ w : World, Calls Tryd.prog f #[.int .u8 s[k].toNat] w fun e w' => e = .returned (.bool (p s[k])) ∧ Drawn0 w w') := ⟨hcall⟩
      clear hcall
      cases hq : p s[k] with
      | true =>
        rw [hq] at hcall'
        have H1 := Aside0.mk hq
        clear hq
        go_wp2_with (go_at_fn f; refine (hcall'.out _).mono ?_; rintro e w' ⟨rfl, ⟨nd, rfl⟩⟩)
        go_roundw
        case rel => exact ⟨k + 1, by omega, by go_num, ⟨(runEnd_yes hlt H1.out).symm.trans hr.out⟩, hd.step _⟩
        case measure => simp [intOf]; omega
      | false =>
        rw [hq] at hcall'
        have H1 := Aside0.mk hq
        clear hq
        go_wp2_with (go_at_fn f; refine (hcall'.out _).mono ?_; rintro e w' ⟨rfl, ⟨nd, rfl⟩⟩)
        go_ret
        exact ⟨ret_int (by rw [← hr.out, runEnd_no hlt H1.out]), hd.step _⟩
    · go_wp2
      go_ret
      exact ⟨ret_int (by rw [← hr.out, runEnd_stop hlt]), hd⟩

theorem blank_any (c : UInt8) (w : World) : Calls Tryd.prog 88 #[.int .u8 c.toNat] w fun e w' => e = .returned (.bool (isBlank c)) ∧ Drawn0 w w' := by
  apply token_blank.calls
  revert c; apply all_u8; decide +kernel
theorem letter_any (c : UInt8) (w : World) : Calls Tryd.prog 109 #[.int .u8 c.toNat] w fun e w' => e = .returned (.bool (isLetter c)) ∧ Drawn0 w w' := by
  apply token_letter.calls
  revert c; apply all_u8; decide +kernel
theorem notNl_any (c : UInt8) (w : World) : Calls Tryd.prog 110 #[.int .u8 c.toNat] w fun e w' => e = .returned (.bool (notNl c)) ∧ Drawn0 w w' := by
  by_cases h : c = 10
  · subst h
    go_enter Tryd.func110, Tryd.ntmps110
    go_wp2
    go_ret
    exact ⟨rfl, Drawn0.refl _⟩
  · have h1 : ((c.toNat : Int) != 10) = true := by
      revert c; apply all_u8; decide +kernel
    go_enter Tryd.func110, Tryd.ntmps110
    go_wp2
    go_ret
    exact ⟨ret_bool (by clear h1; revert c; apply all_u8; decide +kernel), Drawn0.refl _⟩

theorem nameByte_any (c : UInt8) (w : World) : Calls Tryd.prog 53 #[.int .u8 c.toNat] w fun e w' => e = .returned (.bool (isName c)) ∧ Drawn0 w w' := by
  by_cases h1 : 32 < c.toNat
  · have a1 : decide ((32 : Int) < c.toNat) = true := decide_eq_true (by omega)
    by_cases h2 : c.toNat < 127
    · have a2 : decide ((c.toNat : Int) < 127) = true := decide_eq_true (by omega)
      have hc := Aside0.mk (Tryd.strings_IndexByte ⟨#[40, 41, 91, 93, 123, 125, 58, 46, 37]⟩ c.toNat)
      have H : Aside0 (decide (Lib.indexByte [40, 41, 91, 93, 123, 125, 58, 46, 37] c < 0) = isName c) := by
        constructor
        clear hc a1 a2
        revert c; apply all_u8; decide +kernel
      go_enter Tryd.func53, Tryd.ntmps53
      go_wp2_with (go_at_call 87; refine (hc.out _).mono ?_; rintro e w' ⟨rfl, rfl⟩)
      go_ret
      exact ⟨ret_bool H.out, Drawn0.refl _⟩
    · have a2 : decide ((c.toNat : Int) < 127) = false := decide_eq_false (by omega)
      have H : isName c = false := by simp [isName]; omega
      rw [H]
      go_enter Tryd.func53, Tryd.ntmps53
      go_wp2
      go_ret
      exact ⟨rfl, Drawn0.refl _⟩
  · have a1 : decide ((32 : Int) < c.toNat) = false := decide_eq_false (by omega)
    have H : isName c = false := by simp [isName]; omega
    rw [H]
    go_enter Tryd.func53, Tryd.ntmps53
    go_wp2
    go_ret
    exact ⟨rfl, Drawn0.refl _⟩

theorem cls_name : Cls 53 isName := ⟨nameByte_any⟩
theorem cls_letter : Cls 109 isLetter := ⟨letter_any⟩
theorem cls_notNl : Cls 110 notNl := ⟨notNl_any⟩

end Go.Proofs.YtajefkjcfmfjkaaDoor
