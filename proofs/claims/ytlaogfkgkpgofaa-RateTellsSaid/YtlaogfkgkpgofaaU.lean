import Derived.Test.YtlaogfkgkpgofaaEvZ
import Derived.Test.YtlaogfkgkpgofaaProg
/-! This seat's types, told as plain data. Written by gen.py. -/
namespace Go.Proofs.Ytlaogfkgkpgofaa
open Go Go.Ev
noncomputable section
set_option linter.unusedVariables false
structure Sapi_Dec where
  f_Neg : Bool
  f_C : (Int × Int)
  f_Scale : Int
noncomputable def Sapi_Dec.zero : Sapi_Dec := ⟨false, (0, 0), 0⟩
structure Srate_Key where
  f_Period : Int
  f_Kind : Int
noncomputable def Srate_Key.zero : Srate_Key := ⟨0, 0⟩
structure Srate_Table where
  f_l : List (Srate_Key × Sapi_Dec)
noncomputable def Srate_Table.zero : Srate_Table := ⟨[]⟩
structure Spyxref11_Rates where
  f_Has : List Bool
  f_D : List Sapi_Dec
noncomputable def Spyxref11_Rates.zero : Spyxref11_Rates := ⟨[], []⟩
noncomputable def puts_Sapi_Dec (i : Nat) (v : Sapi_Dec) : Nat → List Sapi_Dec → List Sapi_Dec
  | _, [] => []
  | j, y :: r => (⟨cond (Nat.beq i j) v.f_Neg y.f_Neg, (cond (Nat.beq i j) v.f_C.1 y.f_C.1, cond (Nat.beq i j) v.f_C.2 y.f_C.2), cond (Nat.beq i j) v.f_Scale y.f_Scale⟩ : Sapi_Dec) :: puts_Sapi_Dec i v (j + 1) r
inductive C where
  | u32
  | u64
  | i64
  | Srate_Key
  | Sapi_Dec
abbrev El : C → Type
  | .u32 => Int
  | .u64 => Int
  | .i64 => Int
  | .Srate_Key => Srate_Key
  | .Sapi_Dec => Sapi_Dec
abbrev U : Univ := ⟨C, El⟩
noncomputable def deqC : DecidableEq U.C := fun a b => by cases a <;> cases b <;> first | exact isTrue rfl | exact isFalse (fun h => by cases h)
noncomputable def cd_Sapi_Dec : Cd U Sapi_Dec := Cd.iso (Cd.pair Cd.bool (Cd.pair (Cd.pair (Cd.int .u64) (Cd.int .u64)) (Cd.pair (Cd.int .i64) Cd.unit))) (fun x => ⟨x.1, x.2.1, x.2.2.1⟩) (fun x => (x.f_Neg, x.f_C, x.f_Scale, ())) (fun _ => rfl)
noncomputable def cd_Srate_Key : Cd U Srate_Key := Cd.iso (Cd.pair (Cd.int .i64) (Cd.pair (Cd.int .i64) Cd.unit)) (fun x => ⟨x.1, x.2.1⟩) (fun x => (x.f_Period, x.f_Kind, ())) (fun _ => rfl)
noncomputable def cd_Spyxref11_Rates : Cd U Spyxref11_Rates := Cd.iso (Cd.pair (Cd.arr 36 false Cd.bool) (Cd.pair (Cd.arr 36 Sapi_Dec.zero cd_Sapi_Dec) Cd.unit)) (fun x => ⟨x.1, x.2.1⟩) (fun x => (x.f_Has, x.f_D, ())) (fun _ => rfl)
noncomputable def enc_u32 (x : Int) : List (AV U) := [.flat (.int .u32 x)]
noncomputable def dec_u32 : List (AV U) → Option Int | [.flat (.int .u32 x1)] => some x1 | _ => none
theorem dec_enc_u32 (cs : List (AV U)) (x : Int) (h : dec_u32 cs = some x) : cs = enc_u32 x := by
  unfold dec_u32 at h
  split at h
  · cases h; rfl
  · cases h
noncomputable def enc_u64 (x : Int) : List (AV U) := [.flat (.int .u64 x)]
noncomputable def dec_u64 : List (AV U) → Option Int | [.flat (.int .u64 x1)] => some x1 | _ => none
theorem dec_enc_u64 (cs : List (AV U)) (x : Int) (h : dec_u64 cs = some x) : cs = enc_u64 x := by
  unfold dec_u64 at h
  split at h
  · cases h; rfl
  · cases h
noncomputable def enc_i64 (x : Int) : List (AV U) := [.flat (.int .i64 x)]
noncomputable def dec_i64 : List (AV U) → Option Int | [.flat (.int .i64 x1)] => some x1 | _ => none
theorem dec_enc_i64 (cs : List (AV U)) (x : Int) (h : dec_i64 cs = some x) : cs = enc_i64 x := by
  unfold dec_i64 at h
  split at h
  · cases h; rfl
  · cases h
noncomputable def enc_Srate_Key (x : Srate_Key) : List (AV U) := [.flat (.int .i64 x.f_Period), .flat (.int .i64 x.f_Kind)]
noncomputable def dec_Srate_Key : List (AV U) → Option Srate_Key | [.flat (.int .i64 x1), .flat (.int .i64 x2)] => some (⟨x1, x2⟩ : Srate_Key) | _ => none
theorem dec_enc_Srate_Key (cs : List (AV U)) (x : Srate_Key) (h : dec_Srate_Key cs = some x) : cs = enc_Srate_Key x := by
  unfold dec_Srate_Key at h
  split at h
  · cases h; rfl
  · cases h
noncomputable def enc_Sapi_Dec (x : Sapi_Dec) : List (AV U) := [.flat (.bool x.f_Neg), .flat (.int .u64 x.f_C.1), .flat (.int .u64 x.f_C.2), .flat (.int .i64 x.f_Scale)]
noncomputable def dec_Sapi_Dec : List (AV U) → Option Sapi_Dec | [.flat (.bool x1), .flat (.int .u64 x2), .flat (.int .u64 x3), .flat (.int .i64 x4)] => some (⟨x1, (x2, x3), x4⟩ : Sapi_Dec) | _ => none
theorem dec_enc_Sapi_Dec (cs : List (AV U)) (x : Sapi_Dec) (h : dec_Sapi_Dec cs = some x) : cs = enc_Sapi_Dec x := by
  unfold dec_Sapi_Dec at h
  split at h
  · cases h; rfl
  · cases h
noncomputable def keq_Srate_Key (x y : Srate_Key) : Bool := (x.f_Period == y.f_Period) && (x.f_Kind == y.f_Kind)
noncomputable def DD : Codec U where
  size := fun c => match c with | .u32 => 1 | .u64 => 1 | .i64 => 1 | .Srate_Key => 2 | .Sapi_Dec => 4
  enc := fun c => match c with | .u32 => enc_u32 | .u64 => enc_u64 | .i64 => enc_i64 | .Srate_Key => enc_Srate_Key | .Sapi_Dec => enc_Sapi_Dec
  dec := fun c => match c with | .u32 => dec_u32 | .u64 => dec_u64 | .i64 => dec_i64 | .Srate_Key => dec_Srate_Key | .Sapi_Dec => dec_Sapi_Dec
  dflt := fun c => match c with | .u32 => (0 : Int) | .u64 => (0 : Int) | .i64 => (0 : Int) | .Srate_Key => (Srate_Key.zero : Srate_Key) | .Sapi_Dec => (Sapi_Dec.zero : Sapi_Dec)
  deq := deqC
  kinds := fun c => match c with | .u32 => none | .u64 => none | .i64 => none | .Srate_Key => some [0, 0] | .Sapi_Dec => none
  keq := fun c => match c with | .u32 => fun _ _ => false | .u64 => fun _ _ => false | .i64 => fun _ _ => false | .Srate_Key => keq_Srate_Key | .Sapi_Dec => fun _ _ => false
theorem lawful : Lawful DD where
  enc_len := fun c x => by cases c <;> rfl
  dec_enc := fun c cs x h => by
    cases c with
    | u32 => exact dec_enc_u32 cs x h
    | u64 => exact dec_enc_u64 cs x h
    | i64 => exact dec_enc_i64 cs x h
    | Srate_Key => exact dec_enc_Srate_Key cs x h
    | Sapi_Dec => exact dec_enc_Sapi_Dec cs x h
  enc_ok := fun c x v hv => List.all_eq_true.mp (show (DD.enc c x).all okCell = true by cases c <;> rfl) v hv
  keq_ok := fun c ks x y h => by
    cases c with
    | u32 => cases h
    | u64 => cases h
    | i64 => cases h
    | Srate_Key => cases h; rfl
    | Sapi_Dec => cases h
  enc_c0 := fun c x v hv => List.all_eq_true.mp (show (DD.enc c x).all c0 = true by cases c <;> rfl) v hv
noncomputable def row_u32 : AV U → Option (List Int) | .row C.u32 x => some x | .tip _ C.u32 x => some x | .flat (.slice none 0 0) => some [] | _ => none
theorem row_u32_fit {ren : List (Nat × Option Nat)} {v : AV U} {x : List Int} (h : row_u32 v = some x) : FV0 ren v (.row C.u32 x) := by
  unfold row_u32 at h
  split at h
  · cases h; exact FV.row rfl rfl
  · cases h; exact FV.row rfl rfl
  · cases h; exact FV.nilRow rfl
  · cases h
noncomputable def tip_u32 (o : List (Nat × Ev.Obj U)) (sz : Nat) : AV U → Option (Option Nat × List Int) | .tip i C.u32 x => (match lk o i with | some (.tip z) => cond (Nat.beq z sz) (some (some i, x)) none | _ => none) | .flat (.slice none 0 0) => some (none, []) | _ => none
theorem tip_u32_fit {ren : List (Nat × Option Nat)} {s : St U} {sz cid : Nat} {v : AV U} {q : Option Nat × List Int} (h : tip_u32 s.o sz v = some q) (hr : lk ren cid = some q.1) : FV0 ren v (.tip cid C.u32 q.2) ∧ FO ren s cid (.tip sz) := by
  unfold tip_u32 at h
  split at h
  · split at h
    · rename_i hz
      obtain ⟨hb, h2⟩ := cond_none h
      cases h2
      have hb := Nat.eq_of_beq_eq_true hb
      subst hb
      exact ⟨FV.tip rfl hr, _, hr, fun aid ha => by cases ha; exact hz⟩
    · cases h
  · cases h
    exact ⟨FV.nilTip rfl hr, _, hr, fun aid ha => by cases ha⟩
  · cases h
noncomputable def vec_u32 (o : List (Nat × Ev.Obj U)) : AV U → Option (Option Nat × List Int) | .vs i => (match lk o i with | some (.vec C.u32 x) => some (some i, x) | _ => none) | .flat (.slice none 0 0) => some (none, []) | _ => none
theorem vec_u32_fit {ren : List (Nat × Option Nat)} {s : St U} {cid : Nat} {v : AV U} {q : Option Nat × List Int} (h : vec_u32 s.o v = some q) (hr : lk ren cid = some q.1) : FV0 ren v (.vs cid) ∧ FO ren s cid (.vec C.u32 q.2) := by
  unfold vec_u32 at h
  split at h
  · split at h
    · rename_i hz
      cases h
      exact ⟨FV.vs rfl hr, _, hr, fun aid ha => (by cases ha; exact hz), fun ha => (by cases ha)⟩
    · cases h
  · cases h
    exact ⟨FV.nilVs rfl hr, _, hr, fun aid ha => (by cases ha), fun _ => rfl⟩
  · cases h
noncomputable def row_u64 : AV U → Option (List Int) | .row C.u64 x => some x | .tip _ C.u64 x => some x | .flat (.slice none 0 0) => some [] | _ => none
theorem row_u64_fit {ren : List (Nat × Option Nat)} {v : AV U} {x : List Int} (h : row_u64 v = some x) : FV0 ren v (.row C.u64 x) := by
  unfold row_u64 at h
  split at h
  · cases h; exact FV.row rfl rfl
  · cases h; exact FV.row rfl rfl
  · cases h; exact FV.nilRow rfl
  · cases h
noncomputable def tip_u64 (o : List (Nat × Ev.Obj U)) (sz : Nat) : AV U → Option (Option Nat × List Int) | .tip i C.u64 x => (match lk o i with | some (.tip z) => cond (Nat.beq z sz) (some (some i, x)) none | _ => none) | .flat (.slice none 0 0) => some (none, []) | _ => none
theorem tip_u64_fit {ren : List (Nat × Option Nat)} {s : St U} {sz cid : Nat} {v : AV U} {q : Option Nat × List Int} (h : tip_u64 s.o sz v = some q) (hr : lk ren cid = some q.1) : FV0 ren v (.tip cid C.u64 q.2) ∧ FO ren s cid (.tip sz) := by
  unfold tip_u64 at h
  split at h
  · split at h
    · rename_i hz
      obtain ⟨hb, h2⟩ := cond_none h
      cases h2
      have hb := Nat.eq_of_beq_eq_true hb
      subst hb
      exact ⟨FV.tip rfl hr, _, hr, fun aid ha => by cases ha; exact hz⟩
    · cases h
  · cases h
    exact ⟨FV.nilTip rfl hr, _, hr, fun aid ha => by cases ha⟩
  · cases h
noncomputable def vec_u64 (o : List (Nat × Ev.Obj U)) : AV U → Option (Option Nat × List Int) | .vs i => (match lk o i with | some (.vec C.u64 x) => some (some i, x) | _ => none) | .flat (.slice none 0 0) => some (none, []) | _ => none
theorem vec_u64_fit {ren : List (Nat × Option Nat)} {s : St U} {cid : Nat} {v : AV U} {q : Option Nat × List Int} (h : vec_u64 s.o v = some q) (hr : lk ren cid = some q.1) : FV0 ren v (.vs cid) ∧ FO ren s cid (.vec C.u64 q.2) := by
  unfold vec_u64 at h
  split at h
  · split at h
    · rename_i hz
      cases h
      exact ⟨FV.vs rfl hr, _, hr, fun aid ha => (by cases ha; exact hz), fun ha => (by cases ha)⟩
    · cases h
  · cases h
    exact ⟨FV.nilVs rfl hr, _, hr, fun aid ha => (by cases ha), fun _ => rfl⟩
  · cases h
noncomputable def row_i64 : AV U → Option (List Int) | .row C.i64 x => some x | .tip _ C.i64 x => some x | .flat (.slice none 0 0) => some [] | _ => none
theorem row_i64_fit {ren : List (Nat × Option Nat)} {v : AV U} {x : List Int} (h : row_i64 v = some x) : FV0 ren v (.row C.i64 x) := by
  unfold row_i64 at h
  split at h
  · cases h; exact FV.row rfl rfl
  · cases h; exact FV.row rfl rfl
  · cases h; exact FV.nilRow rfl
  · cases h
noncomputable def tip_i64 (o : List (Nat × Ev.Obj U)) (sz : Nat) : AV U → Option (Option Nat × List Int) | .tip i C.i64 x => (match lk o i with | some (.tip z) => cond (Nat.beq z sz) (some (some i, x)) none | _ => none) | .flat (.slice none 0 0) => some (none, []) | _ => none
theorem tip_i64_fit {ren : List (Nat × Option Nat)} {s : St U} {sz cid : Nat} {v : AV U} {q : Option Nat × List Int} (h : tip_i64 s.o sz v = some q) (hr : lk ren cid = some q.1) : FV0 ren v (.tip cid C.i64 q.2) ∧ FO ren s cid (.tip sz) := by
  unfold tip_i64 at h
  split at h
  · split at h
    · rename_i hz
      obtain ⟨hb, h2⟩ := cond_none h
      cases h2
      have hb := Nat.eq_of_beq_eq_true hb
      subst hb
      exact ⟨FV.tip rfl hr, _, hr, fun aid ha => by cases ha; exact hz⟩
    · cases h
  · cases h
    exact ⟨FV.nilTip rfl hr, _, hr, fun aid ha => by cases ha⟩
  · cases h
noncomputable def vec_i64 (o : List (Nat × Ev.Obj U)) : AV U → Option (Option Nat × List Int) | .vs i => (match lk o i with | some (.vec C.i64 x) => some (some i, x) | _ => none) | .flat (.slice none 0 0) => some (none, []) | _ => none
theorem vec_i64_fit {ren : List (Nat × Option Nat)} {s : St U} {cid : Nat} {v : AV U} {q : Option Nat × List Int} (h : vec_i64 s.o v = some q) (hr : lk ren cid = some q.1) : FV0 ren v (.vs cid) ∧ FO ren s cid (.vec C.i64 q.2) := by
  unfold vec_i64 at h
  split at h
  · split at h
    · rename_i hz
      cases h
      exact ⟨FV.vs rfl hr, _, hr, fun aid ha => (by cases ha; exact hz), fun ha => (by cases ha)⟩
    · cases h
  · cases h
    exact ⟨FV.nilVs rfl hr, _, hr, fun aid ha => (by cases ha), fun _ => rfl⟩
  · cases h
noncomputable def row_Srate_Key : AV U → Option (List Srate_Key) | .row C.Srate_Key x => some x | .tip _ C.Srate_Key x => some x | .flat (.slice none 0 0) => some [] | _ => none
theorem row_Srate_Key_fit {ren : List (Nat × Option Nat)} {v : AV U} {x : List Srate_Key} (h : row_Srate_Key v = some x) : FV0 ren v (.row C.Srate_Key x) := by
  unfold row_Srate_Key at h
  split at h
  · cases h; exact FV.row rfl rfl
  · cases h; exact FV.row rfl rfl
  · cases h; exact FV.nilRow rfl
  · cases h
noncomputable def tip_Srate_Key (o : List (Nat × Ev.Obj U)) (sz : Nat) : AV U → Option (Option Nat × List Srate_Key) | .tip i C.Srate_Key x => (match lk o i with | some (.tip z) => cond (Nat.beq z sz) (some (some i, x)) none | _ => none) | .flat (.slice none 0 0) => some (none, []) | _ => none
theorem tip_Srate_Key_fit {ren : List (Nat × Option Nat)} {s : St U} {sz cid : Nat} {v : AV U} {q : Option Nat × List Srate_Key} (h : tip_Srate_Key s.o sz v = some q) (hr : lk ren cid = some q.1) : FV0 ren v (.tip cid C.Srate_Key q.2) ∧ FO ren s cid (.tip sz) := by
  unfold tip_Srate_Key at h
  split at h
  · split at h
    · rename_i hz
      obtain ⟨hb, h2⟩ := cond_none h
      cases h2
      have hb := Nat.eq_of_beq_eq_true hb
      subst hb
      exact ⟨FV.tip rfl hr, _, hr, fun aid ha => by cases ha; exact hz⟩
    · cases h
  · cases h
    exact ⟨FV.nilTip rfl hr, _, hr, fun aid ha => by cases ha⟩
  · cases h
noncomputable def vec_Srate_Key (o : List (Nat × Ev.Obj U)) : AV U → Option (Option Nat × List Srate_Key) | .vs i => (match lk o i with | some (.vec C.Srate_Key x) => some (some i, x) | _ => none) | .flat (.slice none 0 0) => some (none, []) | _ => none
theorem vec_Srate_Key_fit {ren : List (Nat × Option Nat)} {s : St U} {cid : Nat} {v : AV U} {q : Option Nat × List Srate_Key} (h : vec_Srate_Key s.o v = some q) (hr : lk ren cid = some q.1) : FV0 ren v (.vs cid) ∧ FO ren s cid (.vec C.Srate_Key q.2) := by
  unfold vec_Srate_Key at h
  split at h
  · split at h
    · rename_i hz
      cases h
      exact ⟨FV.vs rfl hr, _, hr, fun aid ha => (by cases ha; exact hz), fun ha => (by cases ha)⟩
    · cases h
  · cases h
    exact ⟨FV.nilVs rfl hr, _, hr, fun aid ha => (by cases ha), fun _ => rfl⟩
  · cases h
noncomputable def row_Sapi_Dec : AV U → Option (List Sapi_Dec) | .row C.Sapi_Dec x => some x | .tip _ C.Sapi_Dec x => some x | .flat (.slice none 0 0) => some [] | _ => none
theorem row_Sapi_Dec_fit {ren : List (Nat × Option Nat)} {v : AV U} {x : List Sapi_Dec} (h : row_Sapi_Dec v = some x) : FV0 ren v (.row C.Sapi_Dec x) := by
  unfold row_Sapi_Dec at h
  split at h
  · cases h; exact FV.row rfl rfl
  · cases h; exact FV.row rfl rfl
  · cases h; exact FV.nilRow rfl
  · cases h
noncomputable def tip_Sapi_Dec (o : List (Nat × Ev.Obj U)) (sz : Nat) : AV U → Option (Option Nat × List Sapi_Dec) | .tip i C.Sapi_Dec x => (match lk o i with | some (.tip z) => cond (Nat.beq z sz) (some (some i, x)) none | _ => none) | .flat (.slice none 0 0) => some (none, []) | _ => none
theorem tip_Sapi_Dec_fit {ren : List (Nat × Option Nat)} {s : St U} {sz cid : Nat} {v : AV U} {q : Option Nat × List Sapi_Dec} (h : tip_Sapi_Dec s.o sz v = some q) (hr : lk ren cid = some q.1) : FV0 ren v (.tip cid C.Sapi_Dec q.2) ∧ FO ren s cid (.tip sz) := by
  unfold tip_Sapi_Dec at h
  split at h
  · split at h
    · rename_i hz
      obtain ⟨hb, h2⟩ := cond_none h
      cases h2
      have hb := Nat.eq_of_beq_eq_true hb
      subst hb
      exact ⟨FV.tip rfl hr, _, hr, fun aid ha => by cases ha; exact hz⟩
    · cases h
  · cases h
    exact ⟨FV.nilTip rfl hr, _, hr, fun aid ha => by cases ha⟩
  · cases h
noncomputable def vec_Sapi_Dec (o : List (Nat × Ev.Obj U)) : AV U → Option (Option Nat × List Sapi_Dec) | .vs i => (match lk o i with | some (.vec C.Sapi_Dec x) => some (some i, x) | _ => none) | .flat (.slice none 0 0) => some (none, []) | _ => none
theorem vec_Sapi_Dec_fit {ren : List (Nat × Option Nat)} {s : St U} {cid : Nat} {v : AV U} {q : Option Nat × List Sapi_Dec} (h : vec_Sapi_Dec s.o v = some q) (hr : lk ren cid = some q.1) : FV0 ren v (.vs cid) ∧ FO ren s cid (.vec C.Sapi_Dec q.2) := by
  unfold vec_Sapi_Dec at h
  split at h
  · split at h
    · rename_i hz
      cases h
      exact ⟨FV.vs rfl hr, _, hr, fun aid ha => (by cases ha; exact hz), fun ha => (by cases ha)⟩
    · cases h
  · cases h
    exact ⟨FV.nilVs rfl hr, _, hr, fun aid ha => (by cases ha), fun _ => rfl⟩
  · cases h
noncomputable def map_Srate_Key_Sapi_Dec_t (o : List (Nat × Ev.Obj U)) : AV U → Option (Option Nat × List (Srate_Key × Sapi_Dec)) | .mp i => (match lk o i with | some (.map true true true C.Srate_Key C.Sapi_Dec x) => some (some i, x) | _ => none) | _ => none
theorem map_Srate_Key_Sapi_Dec_t_fit {ren : List (Nat × Option Nat)} {s : St U} {cid : Nat} {v : AV U} {q : Option Nat × List (Srate_Key × Sapi_Dec)} (h : map_Srate_Key_Sapi_Dec_t s.o v = some q) (hr : lk ren cid = some q.1) : FV0 ren v (.mp cid) ∧ FO ren s cid (.map true true true C.Srate_Key C.Sapi_Dec q.2) := by
  unfold map_Srate_Key_Sapi_Dec_t at h
  split at h
  · split at h
    · rename_i hz
      cases h
      exact ⟨FV.mp rfl hr, _, hr, fun aid ha => (by cases ha; exact ⟨_, hz, fun _ => rfl⟩), fun ha => (by cases ha)⟩
    · cases h
  · cases h
noncomputable def map_Srate_Key_Sapi_Dec_f (o : List (Nat × Ev.Obj U)) : AV U → Option (Option Nat × List (Srate_Key × Sapi_Dec)) | .mp i => (match lk o i with | some (.map _ true true C.Srate_Key C.Sapi_Dec x) => some (some i, x) | _ => none) | .flat (.map none) => some (none, []) | _ => none
theorem map_Srate_Key_Sapi_Dec_f_fit {ren : List (Nat × Option Nat)} {s : St U} {cid : Nat} {v : AV U} {q : Option Nat × List (Srate_Key × Sapi_Dec)} (h : map_Srate_Key_Sapi_Dec_f s.o v = some q) (hr : lk ren cid = some q.1) : FV0 ren v (.mp cid) ∧ FO ren s cid (.map false true true C.Srate_Key C.Sapi_Dec q.2) := by
  unfold map_Srate_Key_Sapi_Dec_f at h
  split at h
  · split at h
    · rename_i hz
      cases h
      exact ⟨FV.mp rfl hr, _, hr, fun aid ha => (by cases ha; exact ⟨_, hz, fun hh => by cases hh⟩), fun ha => (by cases ha)⟩
    · cases h
  · cases h
    exact ⟨FV.nilMp rfl hr, _, hr, fun aid ha => (by cases ha), fun _ => ⟨rfl, rfl⟩⟩
  · cases h
noncomputable def mc : List (Nat × (U.C × U.C)) := [(157, (C.Srate_Key, C.Sapi_Dec))]
noncomputable def ec : List (Nat × U.C) := [(61, C.i64), (111, C.Srate_Key), (130, C.i64), (214, C.Sapi_Dec)]
theorem mixed : Try.prog.follows .mixedOrders = true := by kernel_rfl
noncomputable def sl0 : List (Nat × SDen U) := []
theorem sl0_ok : ∀ p ∈ sl0, SfOk Try.prog DD p.1 p.2 ∧ ∀ args w, (callFunc p.1 args).run Try.prog w = .ok (.enter p.1 args) w := fun p hp => (List.not_mem_nil hp).elim
end
end Go.Proofs.Ytlaogfkgkpgofaa
