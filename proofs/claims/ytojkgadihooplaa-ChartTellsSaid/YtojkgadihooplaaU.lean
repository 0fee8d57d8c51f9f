import Derived.Test.YtojkgadihooplaaEvZ
import Derived.Test.YtojkgadihooplaaProg
/-! This seat's types, told as plain data. Written by gen.py. -/
namespace Go.Proofs.Ytojkgadihooplaa
open Go Go.Ev
noncomputable section
set_option linter.unusedVariables false
structure Speriod_Table where
  f_Closed : List Bool
  f_Version : List Int
noncomputable def Speriod_Table.zero : Speriod_Table := ⟨[], []⟩
inductive C where
  | i64
abbrev El : C → Type
  | .i64 => Int
abbrev U : Univ := ⟨C, El⟩
noncomputable def enc_i64 (x : Int) : List (AV U) := [.flat (.int .i64 x)]
noncomputable def dec_i64 : List (AV U) → Option Int | [.flat (.int .i64 x1)] => some x1 | _ => none
theorem dec_enc_i64 (cs : List (AV U)) (x : Int) (h : dec_i64 cs = some x) : cs = enc_i64 x := by
  unfold dec_i64 at h
  split at h
  · cases h; rfl
  · cases h
noncomputable def DD : Codec U where
  size := fun c => match c with | .i64 => 1
  enc := fun c => match c with | .i64 => enc_i64
  dec := fun c => match c with | .i64 => dec_i64
  dflt := fun c => match c with | .i64 => (0 : Int)
theorem lawful : Lawful DD where
  enc_len := fun c x => by cases c <;> rfl
  dec_enc := fun c cs x h => by
    cases c with
    | i64 => exact dec_enc_i64 cs x h
  enc_ok := fun c x v hv => List.all_eq_true.mp (show (DD.enc c x).all okCell = true by cases c <;> rfl) v hv
  enc_c0 := fun c x v hv => List.all_eq_true.mp (show (DD.enc c x).all c0 = true by cases c <;> rfl) v hv
theorem mixed : Try.prog.follows .mixedOrders = true := by kernel_rfl
end
end Go.Proofs.Ytojkgadihooplaa
