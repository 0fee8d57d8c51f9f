import Derived.Test.YthknecaigoilmaaEvZ
import Derived.Test.YthknecaigoilmaaProg
/-! This seat's types, told as plain data. Written by gen.py. -/
namespace Go.Proofs.Ythknecaigoilmaa
open Go Go.Ev
noncomputable section
set_option linter.unusedVariables false
inductive C where
  | u64
  | u32
abbrev El : C → Type
  | .u64 => Int
  | .u32 => Int
abbrev U : Univ := ⟨C, El⟩
noncomputable def enc_u64 (x : Int) : List (AV U) := [.flat (.int .u64 x)]
noncomputable def dec_u64 : List (AV U) → Option Int | [.flat (.int .u64 x1)] => some x1 | _ => none
theorem dec_enc_u64 (cs : List (AV U)) (x : Int) (h : dec_u64 cs = some x) : cs = enc_u64 x := by
  unfold dec_u64 at h
  split at h
  · cases h; rfl
  · cases h
noncomputable def enc_u32 (x : Int) : List (AV U) := [.flat (.int .u32 x)]
noncomputable def dec_u32 : List (AV U) → Option Int | [.flat (.int .u32 x1)] => some x1 | _ => none
theorem dec_enc_u32 (cs : List (AV U)) (x : Int) (h : dec_u32 cs = some x) : cs = enc_u32 x := by
  unfold dec_u32 at h
  split at h
  · cases h; rfl
  · cases h
noncomputable def DD : Codec U where
  size := fun c => match c with | .u64 => 1 | .u32 => 1
  enc := fun c => match c with | .u64 => enc_u64 | .u32 => enc_u32
  dec := fun c => match c with | .u64 => dec_u64 | .u32 => dec_u32
  dflt := fun c => match c with | .u64 => (0 : Int) | .u32 => (0 : Int)
theorem lawful : Lawful DD where
  enc_len := fun c x => by cases c <;> rfl
  dec_enc := fun c cs x h => by
    cases c with
    | u64 => exact dec_enc_u64 cs x h
    | u32 => exact dec_enc_u32 cs x h
  enc_ok := fun c x v hv => List.all_eq_true.mp (show (DD.enc c x).all okCell = true by cases c <;> rfl) v hv
  enc_c0 := fun c x v hv => List.all_eq_true.mp (show (DD.enc c x).all c0 = true by cases c <;> rfl) v hv
theorem mixed : Try.prog.follows .mixedOrders = true := by kernel_rfl
end
end Go.Proofs.Ythknecaigoilmaa
