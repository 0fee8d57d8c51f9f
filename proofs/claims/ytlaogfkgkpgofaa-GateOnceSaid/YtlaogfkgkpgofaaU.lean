import Derived.Test.YtlaogfkgkpgofaaEvZ
import Derived.Test.YtlaogfkgkpgofaaProg
/-! This seat's types, told as plain data. Written by gen.py. -/
namespace Go.Proofs.Ytlaogfkgkpgofaa
open Go Go.Ev
noncomputable section
set_option linter.unusedVariables false
structure Sapi_Dec where
  f_Neg : Bool
  f_C : (Int × Int)
  f_Scale : Int
noncomputable def Sapi_Dec.zero : Sapi_Dec := ⟨false, (0, 0), 0⟩
structure Spyxlaw25_Raw where
  f_Group : Int
  f_Line : Int
  f_Period : Int
  f_Version : Int
  f_Unit : Int
  f_To : Int
  f_N : Int
  f_Scale : Int
  f_Bend : Int
noncomputable def Spyxlaw25_Raw.zero : Spyxlaw25_Raw := ⟨0, 0, 0, 0, 0, 0, 0, 0, 0⟩
structure Sgate_Key where
  f_Group : Int
  f_Line : Int
  f_Period : Int
  f_Version : Int
noncomputable def Sgate_Key.zero : Sgate_Key := ⟨0, 0, 0, 0⟩
structure Sapi_Label where
  f_Set : Int
  f_Level : Int
noncomputable def Sapi_Label.zero : Sapi_Label := ⟨0, 0⟩
structure Sgate_Out where
  f_K : Sgate_Key
  f_Rule : Int
  f_Value : Sapi_Dec
  f_To : Sapi_Label
noncomputable def Sgate_Out.zero : Sgate_Out := ⟨Sgate_Key.zero, 0, Sapi_Dec.zero, Sapi_Label.zero⟩
structure Sgate_Gate where
  f_l : List Sgate_Out
  f_at : List (Sgate_Key × Int)
noncomputable def Sgate_Gate.zero : Sgate_Gate := ⟨[], []⟩
structure Sapi_Rule where
  f_Tag : Int
  f_Role : Int
  f_Verb : Int
  f_Ent : Int
  f_Group : Int
  f_Line : Int
  f_Unit : Sapi_Dec
  f_To : Sapi_Label
noncomputable def Sapi_Rule.zero : Sapi_Rule := ⟨0, 0, 0, 0, 0, 0, Sapi_Dec.zero, Sapi_Label.zero⟩
inductive C where
  | u32
  | u64
  | i64
  | Sgate_Key
  | Sgate_Out
  | Sapi_Dec
  | Spyxlaw25_Raw
abbrev El : C → Type
  | .u32 => Int
  | .u64 => Int
  | .i64 => Int
  | .Sgate_Key => Sgate_Key
  | .Sgate_Out => Sgate_Out
  | .Sapi_Dec => Sapi_Dec
  | .Spyxlaw25_Raw => Spyxlaw25_Raw
abbrev U : Univ := ⟨C, El⟩
noncomputable def deqC : DecidableEq U.C := fun a b => by cases a <;> cases b <;> first | exact isTrue rfl | exact isFalse (fun h => by cases h)
noncomputable def cd_Sapi_Dec : Cd U Sapi_Dec := Cd.iso (Cd.pair Cd.bool (Cd.pair (Cd.pair (Cd.int .u64) (Cd.int .u64)) (Cd.pair (Cd.int .i64) Cd.unit))) (fun x => ⟨x.1, x.2.1, x.2.2.1⟩) (fun x => (x.f_Neg, x.f_C, x.f_Scale, ())) (fun _ => rfl)
noncomputable def cd_Spyxlaw25_Raw : Cd U Spyxlaw25_Raw := Cd.iso (Cd.pair (Cd.int .i64) (Cd.pair (Cd.int .i64) (Cd.pair (Cd.int .i64) (Cd.pair (Cd.int .i64) (Cd.pair (Cd.int .i64) (Cd.pair (Cd.int .i64) (Cd.pair (Cd.int .i64) (Cd.pair (Cd.int .i64) (Cd.pair (Cd.int .i64) Cd.unit))))))))) (fun x => ⟨x.1, x.2.1, x.2.2.1, x.2.2.2.1, x.2.2.2.2.1, x.2.2.2.2.2.1, x.2.2.2.2.2.2.1, x.2.2.2.2.2.2.2.1, x.2.2.2.2.2.2.2.2.1⟩) (fun x => (x.f_Group, x.f_Line, x.f_Period, x.f_Version, x.f_Unit, x.f_To, x.f_N, x.f_Scale, x.f_Bend, ())) (fun _ => rfl)
noncomputable def cd_Sgate_Key : Cd U Sgate_Key := Cd.iso (Cd.pair (Cd.int .i64) (Cd.pair (Cd.int .i64) (Cd.pair (Cd.int .i64) (Cd.pair (Cd.int .i64) Cd.unit)))) (fun x => ⟨x.1, x.2.1, x.2.2.1, x.2.2.2.1⟩) (fun x => (x.f_Group, x.f_Line, x.f_Period, x.f_Version, ())) (fun _ => rfl)
noncomputable def cd_Sapi_Label : Cd U Sapi_Label := Cd.iso (Cd.pair (Cd.int .u64) (Cd.pair (Cd.int .i64) Cd.unit)) (fun x => ⟨x.1, x.2.1⟩) (fun x => (x.f_Set, x.f_Level, ())) (fun _ => rfl)
noncomputable def cd_Sgate_Out : Cd U Sgate_Out := Cd.iso (Cd.pair cd_Sgate_Key (Cd.pair (Cd.int .i64) (Cd.pair cd_Sapi_Dec (Cd.pair cd_Sapi_Label Cd.unit)))) (fun x => ⟨x.1, x.2.1, x.2.2.1, x.2.2.2.1⟩) (fun x => (x.f_K, x.f_Rule, x.f_Value, x.f_To, ())) (fun _ => rfl)
noncomputable def cd_Sapi_Rule : Cd U Sapi_Rule := Cd.iso (Cd.pair (Cd.int .i64) (Cd.pair (Cd.int .i64) (Cd.pair (Cd.int .i64) (Cd.pair (Cd.int .i64) (Cd.pair (Cd.int .i64) (Cd.pair (Cd.int .i64) (Cd.pair cd_Sapi_Dec (Cd.pair cd_Sapi_Label Cd.unit)))))))) (fun x => ⟨x.1, x.2.1, x.2.2.1, x.2.2.2.1, x.2.2.2.2.1, x.2.2.2.2.2.1, x.2.2.2.2.2.2.1, x.2.2.2.2.2.2.2.1⟩) (fun x => (x.f_Tag, x.f_Role, x.f_Verb, x.f_Ent, x.f_Group, x.f_Line, x.f_Unit, x.f_To, ())) (fun _ => rfl)
noncomputable def enc_u32 (x : Int) : List (AV U) := [.flat (.int .u32 x)]
noncomputable def dec_u32 : List (AV U) → Option Int | [.flat (.int .u32 x1)] => some x1 | _ => none
theorem dec_enc_u32 (cs : List (AV U)) (x : Int) (h : dec_u32 cs = some x) : cs = enc_u32 x := by
  unfold dec_u32 at h
  split at h
  · cases h; rfl
  · cases h
noncomputable def enc_u64 (x : Int) : List (AV U) := [.flat (.int .u64 x)]
noncomputable def dec_u64 : List (AV U) → Option Int | [.flat (.int .u64 x1)] => some x1 | _ => none
theorem dec_enc_u64 (cs : List (AV U)) (x : Int) (h : dec_u64 cs = some x) : cs = enc_u64 x := by
  unfold dec_u64 at h
  split at h
  · cases h; rfl
  · cases h
noncomputable def enc_i64 (x : Int) : List (AV U) := [.flat (.int .i64 x)]
noncomputable def dec_i64 : List (AV U) → Option Int | [.flat (.int .i64 x1)] => some x1 | _ => none
theorem dec_enc_i64 (cs : List (AV U)) (x : Int) (h : dec_i64 cs = some x) : cs = enc_i64 x := by
  unfold dec_i64 at h
  split at h
  · cases h; rfl
  · cases h
noncomputable def enc_Sgate_Key (x : Sgate_Key) : List (AV U) := [.flat (.int .i64 x.f_Group), .flat (.int .i64 x.f_Line), .flat (.int .i64 x.f_Period), .flat (.int .i64 x.f_Version)]
noncomputable def dec_Sgate_Key : List (AV U) → Option Sgate_Key | [.flat (.int .i64 x1), .flat (.int .i64 x2), .flat (.int .i64 x3), .flat (.int .i64 x4)] => some (⟨x1, x2, x3, x4⟩ : Sgate_Key) | _ => none
theorem dec_enc_Sgate_Key (cs : List (AV U)) (x : Sgate_Key) (h : dec_Sgate_Key cs = some x) : cs = enc_Sgate_Key x := by
  unfold dec_Sgate_Key at h
  split at h
  · cases h; rfl
  · cases h
noncomputable def enc_Sgate_Out (x : Sgate_Out) : List (AV U) := cd_Sgate_Out.enc x
noncomputable def dec_Sgate_Out (cs : List (AV U)) : Option Sgate_Out := cd_Sgate_Out.full cs
theorem dec_enc_Sgate_Out (cs : List (AV U)) (x : Sgate_Out) (h : dec_Sgate_Out cs = some x) : cs = enc_Sgate_Out x := Cd.full_ok h
noncomputable def enc_Sapi_Dec (x : Sapi_Dec) : List (AV U) := [.flat (.bool x.f_Neg), .flat (.int .u64 x.f_C.1), .flat (.int .u64 x.f_C.2), .flat (.int .i64 x.f_Scale)]
noncomputable def dec_Sapi_Dec : List (AV U) → Option Sapi_Dec | [.flat (.bool x1), .flat (.int .u64 x2), .flat (.int .u64 x3), .flat (.int .i64 x4)] => some (⟨x1, (x2, x3), x4⟩ : Sapi_Dec) | _ => none
theorem dec_enc_Sapi_Dec (cs : List (AV U)) (x : Sapi_Dec) (h : dec_Sapi_Dec cs = some x) : cs = enc_Sapi_Dec x := by
  unfold dec_Sapi_Dec at h
  split at h
  · cases h; rfl
  · cases h
noncomputable def enc_Spyxlaw25_Raw (x : Spyxlaw25_Raw) : List (AV U) := cd_Spyxlaw25_Raw.enc x
noncomputable def dec_Spyxlaw25_Raw (cs : List (AV U)) : Option Spyxlaw25_Raw := cd_Spyxlaw25_Raw.full cs
theorem dec_enc_Spyxlaw25_Raw (cs : List (AV U)) (x : Spyxlaw25_Raw) (h : dec_Spyxlaw25_Raw cs = some x) : cs = enc_Spyxlaw25_Raw x := Cd.full_ok h
noncomputable def keq_Sgate_Key (x y : Sgate_Key) : Bool := (x.f_Group == y.f_Group) && ((x.f_Line == y.f_Line) && ((x.f_Period == y.f_Period) && (x.f_Version == y.f_Version)))
noncomputable def DD : Codec U where
  size := fun c => match c with | .u32 => 1 | .u64 => 1 | .i64 => 1 | .Sgate_Key => 4 | .Sgate_Out => 11 | .Sapi_Dec => 4 | .Spyxlaw25_Raw => 9
  enc := fun c => match c with | .u32 => enc_u32 | .u64 => enc_u64 | .i64 => enc_i64 | .Sgate_Key => enc_Sgate_Key | .Sgate_Out => enc_Sgate_Out | .Sapi_Dec => enc_Sapi_Dec | .Spyxlaw25_Raw => enc_Spyxlaw25_Raw
  dec := fun c => match c with | .u32 => dec_u32 | .u64 => dec_u64 | .i64 => dec_i64 | .Sgate_Key => dec_Sgate_Key | .Sgate_Out => dec_Sgate_Out | .Sapi_Dec => dec_Sapi_Dec | .Spyxlaw25_Raw => dec_Spyxlaw25_Raw
  dflt := fun c => match c with | .u32 => (0 : Int) | .u64 => (0 : Int) | .i64 => (0 : Int) | .Sgate_Key => (Sgate_Key.zero : Sgate_Key) | .Sgate_Out => (Sgate_Out.zero : Sgate_Out) | .Sapi_Dec => (Sapi_Dec.zero : Sapi_Dec) | .Spyxlaw25_Raw => (Spyxlaw25_Raw.zero : Spyxlaw25_Raw)
  deq := deqC
  kinds := fun c => match c with | .u32 => none | .u64 => none | .i64 => none | .Sgate_Key => some [0, 0, 0, 0] | .Sgate_Out => none | .Sapi_Dec => none | .Spyxlaw25_Raw => none
  keq := fun c => match c with | .u32 => fun _ _ => false | .u64 => fun _ _ => false | .i64 => fun _ _ => false | .Sgate_Key => keq_Sgate_Key | .Sgate_Out => fun _ _ => false | .Sapi_Dec => fun _ _ => false | .Spyxlaw25_Raw => fun _ _ => false
theorem lawful : Lawful DD where
  enc_len := fun c x => by cases c <;> rfl
  dec_enc := fun c cs x h => by
    cases c with
    | u32 => exact dec_enc_u32 cs x h
    | u64 => exact dec_enc_u64 cs x h
    | i64 => exact dec_enc_i64 cs x h
    | Sgate_Key => exact dec_enc_Sgate_Key cs x h
    | Sgate_Out => exact dec_enc_Sgate_Out cs x h
    | Sapi_Dec => exact dec_enc_Sapi_Dec cs x h
    | Spyxlaw25_Raw => exact dec_enc_Spyxlaw25_Raw cs x h
  enc_ok := fun c x v hv => List.all_eq_true.mp (show (DD.enc c x).all okCell = true by cases c <;> rfl) v hv
  keq_ok := fun c ks x y h => by
    cases c with
    | u32 => cases h
    | u64 => cases h
    | i64 => cases h
    | Sgate_Key => cases h; rfl
    | Sgate_Out => cases h
    | Sapi_Dec => cases h
    | Spyxlaw25_Raw => cases h
  enc_c0 := fun c x v hv => List.all_eq_true.mp (show (DD.enc c x).all c0 = true by cases c <;> rfl) v hv
noncomputable def row_u32 : AV U → Option (List Int) | .row C.u32 x => some x | .tip _ C.u32 x => some x | .flat (.slice none 0 0) => some [] | _ => none
theorem row_u32_fit {ren : List (Nat × Option Nat)} {v : AV U} {x : List Int} (h : row_u32 v = some x) : FV0 ren v (.row C.u32 x) := by
  unfold row_u32 at h
  split at h
  · cases h; exact FV.row rfl rfl
  · cases h; exact FV.row rfl rfl
  · cases h; exact FV.nilRow rfl
  · cases h
noncomputable def tip_u32 (o : List (Nat × Ev.Obj U)) (sz : Nat) : AV U → Option (Option Nat × List Int) | .tip i C.u32 x => (match lk o i with | some (.tip z) => cond (Nat.beq z sz) (some (some i, x)) none | _ => none) | .flat (.slice none 0 0) => some (none, []) | _ => none
theorem tip_u32_fit {ren : List (Nat × Option Nat)} {s : St U} {sz cid : Nat} {v : AV U} {q : Option Nat × List Int} (h : tip_u32 s.o sz v = some q) (hr : lk ren cid = some q.1) : FV0 ren v (.tip cid C.u32 q.2) ∧ FO ren s cid (.tip sz) := by
  unfold tip_u32 at h
  split at h
  · split at h
    · rename_i hz
      obtain ⟨hb, h2⟩ := cond_none h
      cases h2
      have hb := Nat.eq_of_beq_eq_true hb
      subst hb
      exact ⟨FV.tip rfl hr, _, hr, fun aid ha => by cases ha; exact hz⟩
    · cases h
  · cases h
    exact ⟨FV.nilTip rfl hr, _, hr, fun aid ha => by cases ha⟩
  · cases h
noncomputable def vec_u32 (o : List (Nat × Ev.Obj U)) : AV U → Option (Option Nat × List Int) | .vs i => (match lk o i with | some (.vec C.u32 x) => some (some i, x) | _ => none) | .flat (.slice none 0 0) => some (none, []) | _ => none
theorem vec_u32_fit {ren : List (Nat × Option Nat)} {s : St U} {cid : Nat} {v : AV U} {q : Option Nat × List Int} (h : vec_u32 s.o v = some q) (hr : lk ren cid = some q.1) : FV0 ren v (.vs cid) ∧ FO ren s cid (.vec C.u32 q.2) := by
  unfold vec_u32 at h
  split at h
  · split at h
    · rename_i hz
      cases h
      exact ⟨FV.vs rfl hr, _, hr, fun aid ha => (by cases ha; exact hz), fun ha => (by cases ha)⟩
    · cases h
  · cases h
    exact ⟨FV.nilVs rfl hr, _, hr, fun aid ha => (by cases ha), fun _ => rfl⟩
  · cases h
noncomputable def row_u64 : AV U → Option (List Int) | .row C.u64 x => some x | .tip _ C.u64 x => some x | .flat (.slice none 0 0) => some [] | _ => none
theorem row_u64_fit {ren : List (Nat × Option Nat)} {v : AV U} {x : List Int} (h : row_u64 v = some x) : FV0 ren v (.row C.u64 x) := by
  unfold row_u64 at h
  split at h
  · cases h; exact FV.row rfl rfl
  · cases h; exact FV.row rfl rfl
  · cases h; exact FV.nilRow rfl
  · cases h
noncomputable def tip_u64 (o : List (Nat × Ev.Obj U)) (sz : Nat) : AV U → Option (Option Nat × List Int) | .tip i C.u64 x => (match lk o i with | some (.tip z) => cond (Nat.beq z sz) (some (some i, x)) none | _ => none) | .flat (.slice none 0 0) => some (none, []) | _ => none
theorem tip_u64_fit {ren : List (Nat × Option Nat)} {s : St U} {sz cid : Nat} {v : AV U} {q : Option Nat × List Int} (h : tip_u64 s.o sz v = some q) (hr : lk ren cid = some q.1) : FV0 ren v (.tip cid C.u64 q.2) ∧ FO ren s cid (.tip sz) := by
  unfold tip_u64 at h
  split at h
  · split at h
    · rename_i hz
      obtain ⟨hb, h2⟩ := cond_none h
      cases h2
      have hb := Nat.eq_of_beq_eq_true hb
      subst hb
      exact ⟨FV.tip rfl hr, _, hr, fun aid ha => by cases ha; exact hz⟩
    · cases h
  · cases h
    exact ⟨FV.nilTip rfl hr, _, hr, fun aid ha => by cases ha⟩
  · cases h
noncomputable def vec_u64 (o : List (Nat × Ev.Obj U)) : AV U → Option (Option Nat × List Int) | .vs i => (match lk o i with | some (.vec C.u64 x) => some (some i, x) | _ => none) | .flat (.slice none 0 0) => some (none, []) | _ => none
theorem vec_u64_fit {ren : List (Nat × Option Nat)} {s : St U} {cid : Nat} {v : AV U} {q : Option Nat × List Int} (h : vec_u64 s.o v = some q) (hr : lk ren cid = some q.1) : FV0 ren v (.vs cid) ∧ FO ren s cid (.vec C.u64 q.2) := by
  unfold vec_u64 at h
  split at h
  · split at h
    · rename_i hz
      cases h
      exact ⟨FV.vs rfl hr, _, hr, fun aid ha => (by cases ha; exact hz), fun ha => (by cases ha)⟩
    · cases h
  · cases h
    exact ⟨FV.nilVs rfl hr, _, hr, fun aid ha => (by cases ha), fun _ => rfl⟩
  · cases h
noncomputable def row_i64 : AV U → Option (List Int) | .row C.i64 x => some x | .tip _ C.i64 x => some x | .flat (.slice none 0 0) => some [] | _ => none
theorem row_i64_fit {ren : List (Nat × Option Nat)} {v : AV U} {x : List Int} (h : row_i64 v = some x) : FV0 ren v (.row C.i64 x) := by
  unfold row_i64 at h
  split at h
  · cases h; exact FV.row rfl rfl
  · cases h; exact FV.row rfl rfl
  · cases h; exact FV.nilRow rfl
  · cases h
noncomputable def tip_i64 (o : List (Nat × Ev.Obj U)) (sz : Nat) : AV U → Option (Option Nat × List Int) | .tip i C.i64 x => (match lk o i with | some (.tip z) => cond (Nat.beq z sz) (some (some i, x)) none | _ => none) | .flat (.slice none 0 0) => some (none, []) | _ => none
theorem tip_i64_fit {ren : List (Nat × Option Nat)} {s : St U} {sz cid : Nat} {v : AV U} {q : Option Nat × List Int} (h : tip_i64 s.o sz v = some q) (hr : lk ren cid = some q.1) : FV0 ren v (.tip cid C.i64 q.2) ∧ FO ren s cid (.tip sz) := by
  unfold tip_i64 at h
  split at h
  · split at h
    · rename_i hz
      obtain ⟨hb, h2⟩ := cond_none h
      cases h2
      have hb := Nat.eq_of_beq_eq_true hb
      subst hb
      exact ⟨FV.tip rfl hr, _, hr, fun aid ha => by cases ha; exact hz⟩
    · cases h
  · cases h
    exact ⟨FV.nilTip rfl hr, _, hr, fun aid ha => by cases ha⟩
  · cases h
noncomputable def vec_i64 (o : List (Nat × Ev.Obj U)) : AV U → Option (Option Nat × List Int) | .vs i => (match lk o i with | some (.vec C.i64 x) => some (some i, x) | _ => none) | .flat (.slice none 0 0) => some (none, []) | _ => none
theorem vec_i64_fit {ren : List (Nat × Option Nat)} {s : St U} {cid : Nat} {v : AV U} {q : Option Nat × List Int} (h : vec_i64 s.o v = some q) (hr : lk ren cid = some q.1) : FV0 ren v (.vs cid) ∧ FO ren s cid (.vec C.i64 q.2) := by
  unfold vec_i64 at h
  split at h
  · split at h
    · rename_i hz
      cases h
      exact ⟨FV.vs rfl hr, _, hr, fun aid ha => (by cases ha; exact hz), fun ha => (by cases ha)⟩
    · cases h
  · cases h
    exact ⟨FV.nilVs rfl hr, _, hr, fun aid ha => (by cases ha), fun _ => rfl⟩
  · cases h
noncomputable def row_Sgate_Key : AV U → Option (List Sgate_Key) | .row C.Sgate_Key x => some x | .tip _ C.Sgate_Key x => some x | .flat (.slice none 0 0) => some [] | _ => none
theorem row_Sgate_Key_fit {ren : List (Nat × Option Nat)} {v : AV U} {x : List Sgate_Key} (h : row_Sgate_Key v = some x) : FV0 ren v (.row C.Sgate_Key x) := by
  unfold row_Sgate_Key at h
  split at h
  · cases h; exact FV.row rfl rfl
  · cases h; exact FV.row rfl rfl
  · cases h; exact FV.nilRow rfl
  · cases h
noncomputable def tip_Sgate_Key (o : List (Nat × Ev.Obj U)) (sz : Nat) : AV U → Option (Option Nat × List Sgate_Key) | .tip i C.Sgate_Key x => (match lk o i with | some (.tip z) => cond (Nat.beq z sz) (some (some i, x)) none | _ => none) | .flat (.slice none 0 0) => some (none, []) | _ => none
theorem tip_Sgate_Key_fit {ren : List (Nat × Option Nat)} {s : St U} {sz cid : Nat} {v : AV U} {q : Option Nat × List Sgate_Key} (h : tip_Sgate_Key s.o sz v = some q) (hr : lk ren cid = some q.1) : FV0 ren v (.tip cid C.Sgate_Key q.2) ∧ FO ren s cid (.tip sz) := by
  unfold tip_Sgate_Key at h
  split at h
  · split at h
    · rename_i hz
      obtain ⟨hb, h2⟩ := cond_none h
      cases h2
      have hb := Nat.eq_of_beq_eq_true hb
      subst hb
      exact ⟨FV.tip rfl hr, _, hr, fun aid ha => by cases ha; exact hz⟩
    · cases h
  · cases h
    exact ⟨FV.nilTip rfl hr, _, hr, fun aid ha => by cases ha⟩
  · cases h
noncomputable def vec_Sgate_Key (o : List (Nat × Ev.Obj U)) : AV U → Option (Option Nat × List Sgate_Key) | .vs i => (match lk o i with | some (.vec C.Sgate_Key x) => some (some i, x) | _ => none) | .flat (.slice none 0 0) => some (none, []) | _ => none
theorem vec_Sgate_Key_fit {ren : List (Nat × Option Nat)} {s : St U} {cid : Nat} {v : AV U} {q : Option Nat × List Sgate_Key} (h : vec_Sgate_Key s.o v = some q) (hr : lk ren cid = some q.1) : FV0 ren v (.vs cid) ∧ FO ren s cid (.vec C.Sgate_Key q.2) := by
  unfold vec_Sgate_Key at h
  split at h
  · split at h
    · rename_i hz
      cases h
      exact ⟨FV.vs rfl hr, _, hr, fun aid ha => (by cases ha; exact hz), fun ha => (by cases ha)⟩
    · cases h
  · cases h
    exact ⟨FV.nilVs rfl hr, _, hr, fun aid ha => (by cases ha), fun _ => rfl⟩
  · cases h
noncomputable def row_Sgate_Out : AV U → Option (List Sgate_Out) | .row C.Sgate_Out x => some x | .tip _ C.Sgate_Out x => some x | .flat (.slice none 0 0) => some [] | _ => none
theorem row_Sgate_Out_fit {ren : List (Nat × Option Nat)} {v : AV U} {x : List Sgate_Out} (h : row_Sgate_Out v = some x) : FV0 ren v (.row C.Sgate_Out x) := by
  unfold row_Sgate_Out at h
  split at h
  · cases h; exact FV.row rfl rfl
  · cases h; exact FV.row rfl rfl
  · cases h; exact FV.nilRow rfl
  · cases h
noncomputable def tip_Sgate_Out (o : List (Nat × Ev.Obj U)) (sz : Nat) : AV U → Option (Option Nat × List Sgate_Out) | .tip i C.Sgate_Out x => (match lk o i with | some (.tip z) => cond (Nat.beq z sz) (some (some i, x)) none | _ => none) | .flat (.slice none 0 0) => some (none, []) | _ => none
theorem tip_Sgate_Out_fit {ren : List (Nat × Option Nat)} {s : St U} {sz cid : Nat} {v : AV U} {q : Option Nat × List Sgate_Out} (h : tip_Sgate_Out s.o sz v = some q) (hr : lk ren cid = some q.1) : FV0 ren v (.tip cid C.Sgate_Out q.2) ∧ FO ren s cid (.tip sz) := by
  unfold tip_Sgate_Out at h
  split at h
  · split at h
    · rename_i hz
      obtain ⟨hb, h2⟩ := cond_none h
      cases h2
      have hb := Nat.eq_of_beq_eq_true hb
      subst hb
      exact ⟨FV.tip rfl hr, _, hr, fun aid ha => by cases ha; exact hz⟩
    · cases h
  · cases h
    exact ⟨FV.nilTip rfl hr, _, hr, fun aid ha => by cases ha⟩
  · cases h
noncomputable def vec_Sgate_Out (o : List (Nat × Ev.Obj U)) : AV U → Option (Option Nat × List Sgate_Out) | .vs i => (match lk o i with | some (.vec C.Sgate_Out x) => some (some i, x) | _ => none) | .flat (.slice none 0 0) => some (none, []) | _ => none
theorem vec_Sgate_Out_fit {ren : List (Nat × Option Nat)} {s : St U} {cid : Nat} {v : AV U} {q : Option Nat × List Sgate_Out} (h : vec_Sgate_Out s.o v = some q) (hr : lk ren cid = some q.1) : FV0 ren v (.vs cid) ∧ FO ren s cid (.vec C.Sgate_Out q.2) := by
  unfold vec_Sgate_Out at h
  split at h
  · split at h
    · rename_i hz
      cases h
      exact ⟨FV.vs rfl hr, _, hr, fun aid ha => (by cases ha; exact hz), fun ha => (by cases ha)⟩
    · cases h
  · cases h
    exact ⟨FV.nilVs rfl hr, _, hr, fun aid ha => (by cases ha), fun _ => rfl⟩
  · cases h
noncomputable def row_Sapi_Dec : AV U → Option (List Sapi_Dec) | .row C.Sapi_Dec x => some x | .tip _ C.Sapi_Dec x => some x | .flat (.slice none 0 0) => some [] | _ => none
theorem row_Sapi_Dec_fit {ren : List (Nat × Option Nat)} {v : AV U} {x : List Sapi_Dec} (h : row_Sapi_Dec v = some x) : FV0 ren v (.row C.Sapi_Dec x) := by
  unfold row_Sapi_Dec at h
  split at h
  · cases h; exact FV.row rfl rfl
  · cases h; exact FV.row rfl rfl
  · cases h; exact FV.nilRow rfl
  · cases h
noncomputable def tip_Sapi_Dec (o : List (Nat × Ev.Obj U)) (sz : Nat) : AV U → Option (Option Nat × List Sapi_Dec) | .tip i C.Sapi_Dec x => (match lk o i with | some (.tip z) => cond (Nat.beq z sz) (some (some i, x)) none | _ => none) | .flat (.slice none 0 0) => some (none, []) | _ => none
theorem tip_Sapi_Dec_fit {ren : List (Nat × Option Nat)} {s : St U} {sz cid : Nat} {v : AV U} {q : Option Nat × List Sapi_Dec} (h : tip_Sapi_Dec s.o sz v = some q) (hr : lk ren cid = some q.1) : FV0 ren v (.tip cid C.Sapi_Dec q.2) ∧ FO ren s cid (.tip sz) := by
  unfold tip_Sapi_Dec at h
  split at h
  · split at h
    · rename_i hz
      obtain ⟨hb, h2⟩ := cond_none h
      cases h2
      have hb := Nat.eq_of_beq_eq_true hb
      subst hb
      exact ⟨FV.tip rfl hr, _, hr, fun aid ha => by cases ha; exact hz⟩
    · cases h
  · cases h
    exact ⟨FV.nilTip rfl hr, _, hr, fun aid ha => by cases ha⟩
  · cases h
noncomputable def vec_Sapi_Dec (o : List (Nat × Ev.Obj U)) : AV U → Option (Option Nat × List Sapi_Dec) | .vs i => (match lk o i with | some (.vec C.Sapi_Dec x) => some (some i, x) | _ => none) | .flat (.slice none 0 0) => some (none, []) | _ => none
theorem vec_Sapi_Dec_fit {ren : List (Nat × Option Nat)} {s : St U} {cid : Nat} {v : AV U} {q : Option Nat × List Sapi_Dec} (h : vec_Sapi_Dec s.o v = some q) (hr : lk ren cid = some q.1) : FV0 ren v (.vs cid) ∧ FO ren s cid (.vec C.Sapi_Dec q.2) := by
  unfold vec_Sapi_Dec at h
  split at h
  · split at h
    · rename_i hz
      cases h
      exact ⟨FV.vs rfl hr, _, hr, fun aid ha => (by cases ha; exact hz), fun ha => (by cases ha)⟩
    · cases h
  · cases h
    exact ⟨FV.nilVs rfl hr, _, hr, fun aid ha => (by cases ha), fun _ => rfl⟩
  · cases h
noncomputable def row_Spyxlaw25_Raw : AV U → Option (List Spyxlaw25_Raw) | .row C.Spyxlaw25_Raw x => some x | .tip _ C.Spyxlaw25_Raw x => some x | .flat (.slice none 0 0) => some [] | _ => none
theorem row_Spyxlaw25_Raw_fit {ren : List (Nat × Option Nat)} {v : AV U} {x : List Spyxlaw25_Raw} (h : row_Spyxlaw25_Raw v = some x) : FV0 ren v (.row C.Spyxlaw25_Raw x) := by
  unfold row_Spyxlaw25_Raw at h
  split at h
  · cases h; exact FV.row rfl rfl
  · cases h; exact FV.row rfl rfl
  · cases h; exact FV.nilRow rfl
  · cases h
noncomputable def tip_Spyxlaw25_Raw (o : List (Nat × Ev.Obj U)) (sz : Nat) : AV U → Option (Option Nat × List Spyxlaw25_Raw) | .tip i C.Spyxlaw25_Raw x => (match lk o i with | some (.tip z) => cond (Nat.beq z sz) (some (some i, x)) none | _ => none) | .flat (.slice none 0 0) => some (none, []) | _ => none
theorem tip_Spyxlaw25_Raw_fit {ren : List (Nat × Option Nat)} {s : St U} {sz cid : Nat} {v : AV U} {q : Option Nat × List Spyxlaw25_Raw} (h : tip_Spyxlaw25_Raw s.o sz v = some q) (hr : lk ren cid = some q.1) : FV0 ren v (.tip cid C.Spyxlaw25_Raw q.2) ∧ FO ren s cid (.tip sz) := by
  unfold tip_Spyxlaw25_Raw at h
  split at h
  · split at h
    · rename_i hz
      obtain ⟨hb, h2⟩ := cond_none h
      cases h2
      have hb := Nat.eq_of_beq_eq_true hb
      subst hb
      exact ⟨FV.tip rfl hr, _, hr, fun aid ha => by cases ha; exact hz⟩
    · cases h
  · cases h
    exact ⟨FV.nilTip rfl hr, _, hr, fun aid ha => by cases ha⟩
  · cases h
noncomputable def vec_Spyxlaw25_Raw (o : List (Nat × Ev.Obj U)) : AV U → Option (Option Nat × List Spyxlaw25_Raw) | .vs i => (match lk o i with | some (.vec C.Spyxlaw25_Raw x) => some (some i, x) | _ => none) | .flat (.slice none 0 0) => some (none, []) | _ => none
theorem vec_Spyxlaw25_Raw_fit {ren : List (Nat × Option Nat)} {s : St U} {cid : Nat} {v : AV U} {q : Option Nat × List Spyxlaw25_Raw} (h : vec_Spyxlaw25_Raw s.o v = some q) (hr : lk ren cid = some q.1) : FV0 ren v (.vs cid) ∧ FO ren s cid (.vec C.Spyxlaw25_Raw q.2) := by
  unfold vec_Spyxlaw25_Raw at h
  split at h
  · split at h
    · rename_i hz
      cases h
      exact ⟨FV.vs rfl hr, _, hr, fun aid ha => (by cases ha; exact hz), fun ha => (by cases ha)⟩
    · cases h
  · cases h
    exact ⟨FV.nilVs rfl hr, _, hr, fun aid ha => (by cases ha), fun _ => rfl⟩
  · cases h
noncomputable def map_Sgate_Key_i64_t (o : List (Nat × Ev.Obj U)) : AV U → Option (Option Nat × List (Sgate_Key × Int)) | .mp i => (match lk o i with | some (.map true true false C.Sgate_Key C.i64 x) => some (some i, x) | _ => none) | _ => none
theorem map_Sgate_Key_i64_t_fit {ren : List (Nat × Option Nat)} {s : St U} {cid : Nat} {v : AV U} {q : Option Nat × List (Sgate_Key × Int)} (h : map_Sgate_Key_i64_t s.o v = some q) (hr : lk ren cid = some q.1) : FV0 ren v (.mp cid) ∧ FO ren s cid (.map true true false C.Sgate_Key C.i64 q.2) := by
  unfold map_Sgate_Key_i64_t at h
  split at h
  · split at h
    · rename_i hz
      cases h
      exact ⟨FV.mp rfl hr, _, hr, fun aid ha => (by cases ha; exact ⟨_, hz, fun _ => rfl⟩), fun ha => (by cases ha)⟩
    · cases h
  · cases h
noncomputable def map_Sgate_Key_i64_f (o : List (Nat × Ev.Obj U)) : AV U → Option (Option Nat × List (Sgate_Key × Int)) | .mp i => (match lk o i with | some (.map _ true false C.Sgate_Key C.i64 x) => some (some i, x) | _ => none) | .flat (.map none) => some (none, []) | _ => none
theorem map_Sgate_Key_i64_f_fit {ren : List (Nat × Option Nat)} {s : St U} {cid : Nat} {v : AV U} {q : Option Nat × List (Sgate_Key × Int)} (h : map_Sgate_Key_i64_f s.o v = some q) (hr : lk ren cid = some q.1) : FV0 ren v (.mp cid) ∧ FO ren s cid (.map false true false C.Sgate_Key C.i64 q.2) := by
  unfold map_Sgate_Key_i64_f at h
  split at h
  · split at h
    · rename_i hz
      cases h
      exact ⟨FV.mp rfl hr, _, hr, fun aid ha => (by cases ha; exact ⟨_, hz, fun hh => by cases hh⟩), fun ha => (by cases ha)⟩
    · cases h
  · cases h
    exact ⟨FV.nilMp rfl hr, _, hr, fun aid ha => (by cases ha), fun _ => ⟨rfl, rfl⟩⟩
  · cases h
noncomputable def map_Sgate_Key_Sapi_Dec_t (o : List (Nat × Ev.Obj U)) : AV U → Option (Option Nat × List (Sgate_Key × Sapi_Dec)) | .mp i => (match lk o i with | some (.map true true true C.Sgate_Key C.Sapi_Dec x) => some (some i, x) | _ => none) | _ => none
theorem map_Sgate_Key_Sapi_Dec_t_fit {ren : List (Nat × Option Nat)} {s : St U} {cid : Nat} {v : AV U} {q : Option Nat × List (Sgate_Key × Sapi_Dec)} (h : map_Sgate_Key_Sapi_Dec_t s.o v = some q) (hr : lk ren cid = some q.1) : FV0 ren v (.mp cid) ∧ FO ren s cid (.map true true true C.Sgate_Key C.Sapi_Dec q.2) := by
  unfold map_Sgate_Key_Sapi_Dec_t at h
  split at h
  · split at h
    · rename_i hz
      cases h
      exact ⟨FV.mp rfl hr, _, hr, fun aid ha => (by cases ha; exact ⟨_, hz, fun _ => rfl⟩), fun ha => (by cases ha)⟩
    · cases h
  · cases h
noncomputable def map_Sgate_Key_Sapi_Dec_f (o : List (Nat × Ev.Obj U)) : AV U → Option (Option Nat × List (Sgate_Key × Sapi_Dec)) | .mp i => (match lk o i with | some (.map _ true true C.Sgate_Key C.Sapi_Dec x) => some (some i, x) | _ => none) | .flat (.map none) => some (none, []) | _ => none
theorem map_Sgate_Key_Sapi_Dec_f_fit {ren : List (Nat × Option Nat)} {s : St U} {cid : Nat} {v : AV U} {q : Option Nat × List (Sgate_Key × Sapi_Dec)} (h : map_Sgate_Key_Sapi_Dec_f s.o v = some q) (hr : lk ren cid = some q.1) : FV0 ren v (.mp cid) ∧ FO ren s cid (.map false true true C.Sgate_Key C.Sapi_Dec q.2) := by
  unfold map_Sgate_Key_Sapi_Dec_f at h
  split at h
  · split at h
    · rename_i hz
      cases h
      exact ⟨FV.mp rfl hr, _, hr, fun aid ha => (by cases ha; exact ⟨_, hz, fun hh => by cases hh⟩), fun ha => (by cases ha)⟩
    · cases h
  · cases h
    exact ⟨FV.nilMp rfl hr, _, hr, fun aid ha => (by cases ha), fun _ => ⟨rfl, rfl⟩⟩
  · cases h
noncomputable def mc : List (Nat × (U.C × U.C)) := [(99, (C.Sgate_Key, C.Sapi_Dec)), (126, (C.Sgate_Key, C.i64))]
noncomputable def ec : List (Nat × U.C) := [(39, C.Sgate_Out), (42, C.Spyxlaw25_Raw), (61, C.i64), (130, C.i64), (214, C.Sapi_Dec)]
theorem mixed : Try.prog.follows .mixedOrders = true := by kernel_rfl
end
end Go.Proofs.Ytlaogfkgkpgofaa
