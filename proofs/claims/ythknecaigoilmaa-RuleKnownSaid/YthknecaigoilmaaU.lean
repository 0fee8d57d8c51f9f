import Derived.Test.YthknecaigoilmaaEvC
import Derived.Test.YthknecaigoilmaaProg
/-! This seat's types, told as plain data. Written by gen.py. -/
namespace Go.Proofs.Ythknecaigoilmaa
open Go Go.Ev
noncomputable section
set_option linter.unusedVariables false
structure Sapi_Ent where
  f_Level : Int
  f_Scale : Int
  f_Parent : Int
  f_Share : Int
noncomputable def Sapi_Ent.zero : Sapi_Ent := ⟨0, 0, 0, 0⟩
structure Sapi_Label where
  f_Set : Int
  f_Level : Int
noncomputable def Sapi_Label.zero : Sapi_Label := ⟨0, 0⟩
structure Sapi_Who where
  f_Clear : Sapi_Label
  f_Roles : Int
noncomputable def Sapi_Who.zero : Sapi_Who := ⟨Sapi_Label.zero, 0⟩
structure Sapi_Dec where
  f_Neg : Bool
  f_C : (Int × Int)
  f_Scale : Int
noncomputable def Sapi_Dec.zero : Sapi_Dec := ⟨false, (0, 0), 0⟩
structure Sapi_Rule where
  f_Tag : Int
  f_Role : Int
  f_Verb : Int
  f_Ent : Int
  f_Group : Int
  f_Line : Int
  f_Unit : Sapi_Dec
  f_To : Sapi_Label
noncomputable def Sapi_Rule.zero : Sapi_Rule := ⟨0, 0, 0, 0, 0, 0, Sapi_Dec.zero, Sapi_Label.zero⟩
structure Sapi_Policy where
  f_Ents : List Sapi_Ent
  f_Groups : List Int
  f_Who : List Sapi_Who
  f_Up : List Int
  f_Rules : List Sapi_Rule
noncomputable def Sapi_Policy.zero : Sapi_Policy := ⟨[], [], [], [], []⟩
inductive C where
  | Sapi_Ent
  | u64
  | Sapi_Who
  | i64
  | Sapi_Rule
  | u32
abbrev El : C → Type
  | .Sapi_Ent => Sapi_Ent
  | .u64 => Int
  | .Sapi_Who => Sapi_Who
  | .i64 => Int
  | .Sapi_Rule => Sapi_Rule
  | .u32 => Int
abbrev U : Univ := ⟨C, El⟩
noncomputable def deqC : DecidableEq U.C := fun a b => by cases a <;> cases b <;> first | exact isTrue rfl | exact isFalse (fun h => by cases h)
noncomputable def cd_Sapi_Ent : Cd U Sapi_Ent := Cd.iso (Cd.pair (Cd.int .i64) (Cd.pair (Cd.int .i64) (Cd.pair (Cd.int .i64) (Cd.pair (Cd.int .i64) Cd.unit)))) (fun x => ⟨x.1, x.2.1, x.2.2.1, x.2.2.2.1⟩) (fun x => (x.f_Level, x.f_Scale, x.f_Parent, x.f_Share, ())) (fun _ => rfl)
noncomputable def cd_Sapi_Label : Cd U Sapi_Label := Cd.iso (Cd.pair (Cd.int .u64) (Cd.pair (Cd.int .i64) Cd.unit)) (fun x => ⟨x.1, x.2.1⟩) (fun x => (x.f_Set, x.f_Level, ())) (fun _ => rfl)
noncomputable def cd_Sapi_Who : Cd U Sapi_Who := Cd.iso (Cd.pair cd_Sapi_Label (Cd.pair (Cd.int .u64) Cd.unit)) (fun x => ⟨x.1, x.2.1⟩) (fun x => (x.f_Clear, x.f_Roles, ())) (fun _ => rfl)
noncomputable def cd_Sapi_Dec : Cd U Sapi_Dec := Cd.iso (Cd.pair Cd.bool (Cd.pair (Cd.pair (Cd.int .u64) (Cd.int .u64)) (Cd.pair (Cd.int .i64) Cd.unit))) (fun x => ⟨x.1, x.2.1, x.2.2.1⟩) (fun x => (x.f_Neg, x.f_C, x.f_Scale, ())) (fun _ => rfl)
noncomputable def cd_Sapi_Rule : Cd U Sapi_Rule := Cd.iso (Cd.pair (Cd.int .i64) (Cd.pair (Cd.int .i64) (Cd.pair (Cd.int .i64) (Cd.pair (Cd.int .i64) (Cd.pair (Cd.int .i64) (Cd.pair (Cd.int .i64) (Cd.pair cd_Sapi_Dec (Cd.pair cd_Sapi_Label Cd.unit)))))))) (fun x => ⟨x.1, x.2.1, x.2.2.1, x.2.2.2.1, x.2.2.2.2.1, x.2.2.2.2.2.1, x.2.2.2.2.2.2.1, x.2.2.2.2.2.2.2.1⟩) (fun x => (x.f_Tag, x.f_Role, x.f_Verb, x.f_Ent, x.f_Group, x.f_Line, x.f_Unit, x.f_To, ())) (fun _ => rfl)
noncomputable def cd_Sapi_Policy : Cd U Sapi_Policy := Cd.iso (Cd.pair (Cd.row deqC C.Sapi_Ent) (Cd.pair (Cd.row deqC C.u64) (Cd.pair (Cd.row deqC C.Sapi_Who) (Cd.pair (Cd.row deqC C.i64) (Cd.pair (Cd.row deqC C.Sapi_Rule) Cd.unit))))) (fun x => ⟨x.1, x.2.1, x.2.2.1, x.2.2.2.1, x.2.2.2.2.1⟩) (fun x => (x.f_Ents, x.f_Groups, x.f_Who, x.f_Up, x.f_Rules, ())) (fun _ => rfl)
noncomputable def enc_Sapi_Ent (x : Sapi_Ent) : List (AV U) := [.flat (.int .i64 x.f_Level), .flat (.int .i64 x.f_Scale), .flat (.int .i64 x.f_Parent), .flat (.int .i64 x.f_Share)]
noncomputable def dec_Sapi_Ent : List (AV U) → Option Sapi_Ent | [.flat (.int .i64 x1), .flat (.int .i64 x2), .flat (.int .i64 x3), .flat (.int .i64 x4)] => some (⟨x1, x2, x3, x4⟩ : Sapi_Ent) | _ => none
theorem dec_enc_Sapi_Ent (cs : List (AV U)) (x : Sapi_Ent) (h : dec_Sapi_Ent cs = some x) : cs = enc_Sapi_Ent x := by
  unfold dec_Sapi_Ent at h
  split at h
  · cases h; rfl
  · cases h
noncomputable def enc_u64 (x : Int) : List (AV U) := [.flat (.int .u64 x)]
noncomputable def dec_u64 : List (AV U) → Option Int | [.flat (.int .u64 x1)] => some x1 | _ => none
theorem dec_enc_u64 (cs : List (AV U)) (x : Int) (h : dec_u64 cs = some x) : cs = enc_u64 x := by
  unfold dec_u64 at h
  split at h
  · cases h; rfl
  · cases h
noncomputable def enc_Sapi_Who (x : Sapi_Who) : List (AV U) := [.flat (.int .u64 x.f_Clear.f_Set), .flat (.int .i64 x.f_Clear.f_Level), .flat (.int .u64 x.f_Roles)]
noncomputable def dec_Sapi_Who : List (AV U) → Option Sapi_Who | [.flat (.int .u64 x1), .flat (.int .i64 x2), .flat (.int .u64 x3)] => some (⟨(⟨x1, x2⟩ : Sapi_Label), x3⟩ : Sapi_Who) | _ => none
theorem dec_enc_Sapi_Who (cs : List (AV U)) (x : Sapi_Who) (h : dec_Sapi_Who cs = some x) : cs = enc_Sapi_Who x := by
  unfold dec_Sapi_Who at h
  split at h
  · cases h; rfl
  · cases h
noncomputable def enc_i64 (x : Int) : List (AV U) := [.flat (.int .i64 x)]
noncomputable def dec_i64 : List (AV U) → Option Int | [.flat (.int .i64 x1)] => some x1 | _ => none
theorem dec_enc_i64 (cs : List (AV U)) (x : Int) (h : dec_i64 cs = some x) : cs = enc_i64 x := by
  unfold dec_i64 at h
  split at h
  · cases h; rfl
  · cases h
noncomputable def enc_Sapi_Rule (x : Sapi_Rule) : List (AV U) := cd_Sapi_Rule.enc x
noncomputable def dec_Sapi_Rule (cs : List (AV U)) : Option Sapi_Rule := cd_Sapi_Rule.full cs
theorem dec_enc_Sapi_Rule (cs : List (AV U)) (x : Sapi_Rule) (h : dec_Sapi_Rule cs = some x) : cs = enc_Sapi_Rule x := Cd.full_ok h
noncomputable def enc_u32 (x : Int) : List (AV U) := [.flat (.int .u32 x)]
noncomputable def dec_u32 : List (AV U) → Option Int | [.flat (.int .u32 x1)] => some x1 | _ => none
theorem dec_enc_u32 (cs : List (AV U)) (x : Int) (h : dec_u32 cs = some x) : cs = enc_u32 x := by
  unfold dec_u32 at h
  split at h
  · cases h; rfl
  · cases h
noncomputable def DD : Codec U where
  size := fun c => match c with | .Sapi_Ent => 4 | .u64 => 1 | .Sapi_Who => 3 | .i64 => 1 | .Sapi_Rule => 12 | .u32 => 1
  enc := fun c => match c with | .Sapi_Ent => enc_Sapi_Ent | .u64 => enc_u64 | .Sapi_Who => enc_Sapi_Who | .i64 => enc_i64 | .Sapi_Rule => enc_Sapi_Rule | .u32 => enc_u32
  dec := fun c => match c with | .Sapi_Ent => dec_Sapi_Ent | .u64 => dec_u64 | .Sapi_Who => dec_Sapi_Who | .i64 => dec_i64 | .Sapi_Rule => dec_Sapi_Rule | .u32 => dec_u32
  dflt := fun c => match c with | .Sapi_Ent => (Sapi_Ent.zero : Sapi_Ent) | .u64 => (0 : Int) | .Sapi_Who => (Sapi_Who.zero : Sapi_Who) | .i64 => (0 : Int) | .Sapi_Rule => (Sapi_Rule.zero : Sapi_Rule) | .u32 => (0 : Int)
  deq := deqC
  kinds := fun c => match c with | .Sapi_Ent => none | .u64 => none | .Sapi_Who => none | .i64 => none | .Sapi_Rule => none | .u32 => none
  keq := fun c => match c with | .Sapi_Ent => fun _ _ => false | .u64 => fun _ _ => false | .Sapi_Who => fun _ _ => false | .i64 => fun _ _ => false | .Sapi_Rule => fun _ _ => false | .u32 => fun _ _ => false
theorem lawful : Lawful DD where
  enc_len := fun c x => by cases c <;> rfl
  dec_enc := fun c cs x h => by
    cases c with
    | Sapi_Ent => exact dec_enc_Sapi_Ent cs x h
    | u64 => exact dec_enc_u64 cs x h
    | Sapi_Who => exact dec_enc_Sapi_Who cs x h
    | i64 => exact dec_enc_i64 cs x h
    | Sapi_Rule => exact dec_enc_Sapi_Rule cs x h
    | u32 => exact dec_enc_u32 cs x h
  enc_ok := fun c x v hv => List.all_eq_true.mp (show (DD.enc c x).all okCell = true by cases c <;> rfl) v hv
  keq_ok := fun c ks x y h => by
    cases c with
    | Sapi_Ent => cases h
    | u64 => cases h
    | Sapi_Who => cases h
    | i64 => cases h
    | Sapi_Rule => cases h
    | u32 => cases h
  enc_c0 := fun c x v hv => List.all_eq_true.mp (show (DD.enc c x).all c0 = true by cases c <;> rfl) v hv
noncomputable def row_Sapi_Ent : AV U → Option (List Sapi_Ent) | .row C.Sapi_Ent x => some x | .tip _ C.Sapi_Ent x => some x | .flat (.slice none 0 0) => some [] | _ => none
theorem row_Sapi_Ent_fit {ren : List (Nat × Option Nat)} {v : AV U} {x : List Sapi_Ent} (h : row_Sapi_Ent v = some x) : FV0 ren v (.row C.Sapi_Ent x) := by
  unfold row_Sapi_Ent at h
  split at h
  · cases h; exact FV.row rfl rfl
  · cases h; exact FV.row rfl rfl
  · cases h; exact FV.nilRow rfl
  · cases h
noncomputable def tip_Sapi_Ent (o : List (Nat × Ev.Obj U)) (sz : Nat) : AV U → Option (Option Nat × List Sapi_Ent) | .tip i C.Sapi_Ent x => (match lk o i with | some (.tip z) => cond (Nat.beq z sz) (some (some i, x)) none | _ => none) | .flat (.slice none 0 0) => some (none, []) | _ => none
theorem tip_Sapi_Ent_fit {ren : List (Nat × Option Nat)} {s : St U} {sz cid : Nat} {v : AV U} {q : Option Nat × List Sapi_Ent} (h : tip_Sapi_Ent s.o sz v = some q) (hr : lk ren cid = some q.1) : FV0 ren v (.tip cid C.Sapi_Ent q.2) ∧ FO ren s cid (.tip sz) := by
  unfold tip_Sapi_Ent at h
  split at h
  · split at h
    · rename_i hz
      obtain ⟨hb, h2⟩ := cond_none h
      cases h2
      have hb := Nat.eq_of_beq_eq_true hb
      subst hb
      exact ⟨FV.tip rfl hr, _, hr, fun aid ha => by cases ha; exact hz⟩
    · cases h
  · cases h
    exact ⟨FV.nilTip rfl hr, _, hr, fun aid ha => by cases ha⟩
  · cases h
noncomputable def vec_Sapi_Ent (o : List (Nat × Ev.Obj U)) : AV U → Option (Option Nat × List Sapi_Ent) | .vs i => (match lk o i with | some (.vec C.Sapi_Ent x) => some (some i, x) | _ => none) | .flat (.slice none 0 0) => some (none, []) | _ => none
theorem vec_Sapi_Ent_fit {ren : List (Nat × Option Nat)} {s : St U} {cid : Nat} {v : AV U} {q : Option Nat × List Sapi_Ent} (h : vec_Sapi_Ent s.o v = some q) (hr : lk ren cid = some q.1) : FV0 ren v (.vs cid) ∧ FO ren s cid (.vec C.Sapi_Ent q.2) := by
  unfold vec_Sapi_Ent at h
  split at h
  · split at h
    · rename_i hz
      cases h
      exact ⟨FV.vs rfl hr, _, hr, fun aid ha => (by cases ha; exact hz), fun ha => (by cases ha)⟩
    · cases h
  · cases h
    exact ⟨FV.nilVs rfl hr, _, hr, fun aid ha => (by cases ha), fun _ => rfl⟩
  · cases h
noncomputable def row_u64 : AV U → Option (List Int) | .row C.u64 x => some x | .tip _ C.u64 x => some x | .flat (.slice none 0 0) => some [] | _ => none
theorem row_u64_fit {ren : List (Nat × Option Nat)} {v : AV U} {x : List Int} (h : row_u64 v = some x) : FV0 ren v (.row C.u64 x) := by
  unfold row_u64 at h
  split at h
  · cases h; exact FV.row rfl rfl
  · cases h; exact FV.row rfl rfl
  · cases h; exact FV.nilRow rfl
  · cases h
noncomputable def tip_u64 (o : List (Nat × Ev.Obj U)) (sz : Nat) : AV U → Option (Option Nat × List Int) | .tip i C.u64 x => (match lk o i with | some (.tip z) => cond (Nat.beq z sz) (some (some i, x)) none | _ => none) | .flat (.slice none 0 0) => some (none, []) | _ => none
theorem tip_u64_fit {ren : List (Nat × Option Nat)} {s : St U} {sz cid : Nat} {v : AV U} {q : Option Nat × List Int} (h : tip_u64 s.o sz v = some q) (hr : lk ren cid = some q.1) : FV0 ren v (.tip cid C.u64 q.2) ∧ FO ren s cid (.tip sz) := by
  unfold tip_u64 at h
  split at h
  · split at h
    · rename_i hz
      obtain ⟨hb, h2⟩ := cond_none h
      cases h2
      have hb := Nat.eq_of_beq_eq_true hb
      subst hb
      exact ⟨FV.tip rfl hr, _, hr, fun aid ha => by cases ha; exact hz⟩
    · cases h
  · cases h
    exact ⟨FV.nilTip rfl hr, _, hr, fun aid ha => by cases ha⟩
  · cases h
noncomputable def vec_u64 (o : List (Nat × Ev.Obj U)) : AV U → Option (Option Nat × List Int) | .vs i => (match lk o i with | some (.vec C.u64 x) => some (some i, x) | _ => none) | .flat (.slice none 0 0) => some (none, []) | _ => none
theorem vec_u64_fit {ren : List (Nat × Option Nat)} {s : St U} {cid : Nat} {v : AV U} {q : Option Nat × List Int} (h : vec_u64 s.o v = some q) (hr : lk ren cid = some q.1) : FV0 ren v (.vs cid) ∧ FO ren s cid (.vec C.u64 q.2) := by
  unfold vec_u64 at h
  split at h
  · split at h
    · rename_i hz
      cases h
      exact ⟨FV.vs rfl hr, _, hr, fun aid ha => (by cases ha; exact hz), fun ha => (by cases ha)⟩
    · cases h
  · cases h
    exact ⟨FV.nilVs rfl hr, _, hr, fun aid ha => (by cases ha), fun _ => rfl⟩
  · cases h
noncomputable def row_Sapi_Who : AV U → Option (List Sapi_Who) | .row C.Sapi_Who x => some x | .tip _ C.Sapi_Who x => some x | .flat (.slice none 0 0) => some [] | _ => none
theorem row_Sapi_Who_fit {ren : List (Nat × Option Nat)} {v : AV U} {x : List Sapi_Who} (h : row_Sapi_Who v = some x) : FV0 ren v (.row C.Sapi_Who x) := by
  unfold row_Sapi_Who at h
  split at h
  · cases h; exact FV.row rfl rfl
  · cases h; exact FV.row rfl rfl
  · cases h; exact FV.nilRow rfl
  · cases h
noncomputable def tip_Sapi_Who (o : List (Nat × Ev.Obj U)) (sz : Nat) : AV U → Option (Option Nat × List Sapi_Who) | .tip i C.Sapi_Who x => (match lk o i with | some (.tip z) => cond (Nat.beq z sz) (some (some i, x)) none | _ => none) | .flat (.slice none 0 0) => some (none, []) | _ => none
theorem tip_Sapi_Who_fit {ren : List (Nat × Option Nat)} {s : St U} {sz cid : Nat} {v : AV U} {q : Option Nat × List Sapi_Who} (h : tip_Sapi_Who s.o sz v = some q) (hr : lk ren cid = some q.1) : FV0 ren v (.tip cid C.Sapi_Who q.2) ∧ FO ren s cid (.tip sz) := by
  unfold tip_Sapi_Who at h
  split at h
  · split at h
    · rename_i hz
      obtain ⟨hb, h2⟩ := cond_none h
      cases h2
      have hb := Nat.eq_of_beq_eq_true hb
      subst hb
      exact ⟨FV.tip rfl hr, _, hr, fun aid ha => by cases ha; exact hz⟩
    · cases h
  · cases h
    exact ⟨FV.nilTip rfl hr, _, hr, fun aid ha => by cases ha⟩
  · cases h
noncomputable def vec_Sapi_Who (o : List (Nat × Ev.Obj U)) : AV U → Option (Option Nat × List Sapi_Who) | .vs i => (match lk o i with | some (.vec C.Sapi_Who x) => some (some i, x) | _ => none) | .flat (.slice none 0 0) => some (none, []) | _ => none
theorem vec_Sapi_Who_fit {ren : List (Nat × Option Nat)} {s : St U} {cid : Nat} {v : AV U} {q : Option Nat × List Sapi_Who} (h : vec_Sapi_Who s.o v = some q) (hr : lk ren cid = some q.1) : FV0 ren v (.vs cid) ∧ FO ren s cid (.vec C.Sapi_Who q.2) := by
  unfold vec_Sapi_Who at h
  split at h
  · split at h
    · rename_i hz
      cases h
      exact ⟨FV.vs rfl hr, _, hr, fun aid ha => (by cases ha; exact hz), fun ha => (by cases ha)⟩
    · cases h
  · cases h
    exact ⟨FV.nilVs rfl hr, _, hr, fun aid ha => (by cases ha), fun _ => rfl⟩
  · cases h
noncomputable def row_i64 : AV U → Option (List Int) | .row C.i64 x => some x | .tip _ C.i64 x => some x | .flat (.slice none 0 0) => some [] | _ => none
theorem row_i64_fit {ren : List (Nat × Option Nat)} {v : AV U} {x : List Int} (h : row_i64 v = some x) : FV0 ren v (.row C.i64 x) := by
  unfold row_i64 at h
  split at h
  · cases h; exact FV.row rfl rfl
  · cases h; exact FV.row rfl rfl
  · cases h; exact FV.nilRow rfl
  · cases h
noncomputable def tip_i64 (o : List (Nat × Ev.Obj U)) (sz : Nat) : AV U → Option (Option Nat × List Int) | .tip i C.i64 x => (match lk o i with | some (.tip z) => cond (Nat.beq z sz) (some (some i, x)) none | _ => none) | .flat (.slice none 0 0) => some (none, []) | _ => none
theorem tip_i64_fit {ren : List (Nat × Option Nat)} {s : St U} {sz cid : Nat} {v : AV U} {q : Option Nat × List Int} (h : tip_i64 s.o sz v = some q) (hr : lk ren cid = some q.1) : FV0 ren v (.tip cid C.i64 q.2) ∧ FO ren s cid (.tip sz) := by
  unfold tip_i64 at h
  split at h
  · split at h
    · rename_i hz
      obtain ⟨hb, h2⟩ := cond_none h
      cases h2
      have hb := Nat.eq_of_beq_eq_true hb
      subst hb
      exact ⟨FV.tip rfl hr, _, hr, fun aid ha => by cases ha; exact hz⟩
    · cases h
  · cases h
    exact ⟨FV.nilTip rfl hr, _, hr, fun aid ha => by cases ha⟩
  · cases h
noncomputable def vec_i64 (o : List (Nat × Ev.Obj U)) : AV U → Option (Option Nat × List Int) | .vs i => (match lk o i with | some (.vec C.i64 x) => some (some i, x) | _ => none) | .flat (.slice none 0 0) => some (none, []) | _ => none
theorem vec_i64_fit {ren : List (Nat × Option Nat)} {s : St U} {cid : Nat} {v : AV U} {q : Option Nat × List Int} (h : vec_i64 s.o v = some q) (hr : lk ren cid = some q.1) : FV0 ren v (.vs cid) ∧ FO ren s cid (.vec C.i64 q.2) := by
  unfold vec_i64 at h
  split at h
  · split at h
    · rename_i hz
      cases h
      exact ⟨FV.vs rfl hr, _, hr, fun aid ha => (by cases ha; exact hz), fun ha => (by cases ha)⟩
    · cases h
  · cases h
    exact ⟨FV.nilVs rfl hr, _, hr, fun aid ha => (by cases ha), fun _ => rfl⟩
  · cases h
noncomputable def row_Sapi_Rule : AV U → Option (List Sapi_Rule) | .row C.Sapi_Rule x => some x | .tip _ C.Sapi_Rule x => some x | .flat (.slice none 0 0) => some [] | _ => none
theorem row_Sapi_Rule_fit {ren : List (Nat × Option Nat)} {v : AV U} {x : List Sapi_Rule} (h : row_Sapi_Rule v = some x) : FV0 ren v (.row C.Sapi_Rule x) := by
  unfold row_Sapi_Rule at h
  split at h
  · cases h; exact FV.row rfl rfl
  · cases h; exact FV.row rfl rfl
  · cases h; exact FV.nilRow rfl
  · cases h
noncomputable def tip_Sapi_Rule (o : List (Nat × Ev.Obj U)) (sz : Nat) : AV U → Option (Option Nat × List Sapi_Rule) | .tip i C.Sapi_Rule x => (match lk o i with | some (.tip z) => cond (Nat.beq z sz) (some (some i, x)) none | _ => none) | .flat (.slice none 0 0) => some (none, []) | _ => none
theorem tip_Sapi_Rule_fit {ren : List (Nat × Option Nat)} {s : St U} {sz cid : Nat} {v : AV U} {q : Option Nat × List Sapi_Rule} (h : tip_Sapi_Rule s.o sz v = some q) (hr : lk ren cid = some q.1) : FV0 ren v (.tip cid C.Sapi_Rule q.2) ∧ FO ren s cid (.tip sz) := by
  unfold tip_Sapi_Rule at h
  split at h
  · split at h
    · rename_i hz
      obtain ⟨hb, h2⟩ := cond_none h
      cases h2
      have hb := Nat.eq_of_beq_eq_true hb
      subst hb
      exact ⟨FV.tip rfl hr, _, hr, fun aid ha => by cases ha; exact hz⟩
    · cases h
  · cases h
    exact ⟨FV.nilTip rfl hr, _, hr, fun aid ha => by cases ha⟩
  · cases h
noncomputable def vec_Sapi_Rule (o : List (Nat × Ev.Obj U)) : AV U → Option (Option Nat × List Sapi_Rule) | .vs i => (match lk o i with | some (.vec C.Sapi_Rule x) => some (some i, x) | _ => none) | .flat (.slice none 0 0) => some (none, []) | _ => none
theorem vec_Sapi_Rule_fit {ren : List (Nat × Option Nat)} {s : St U} {cid : Nat} {v : AV U} {q : Option Nat × List Sapi_Rule} (h : vec_Sapi_Rule s.o v = some q) (hr : lk ren cid = some q.1) : FV0 ren v (.vs cid) ∧ FO ren s cid (.vec C.Sapi_Rule q.2) := by
  unfold vec_Sapi_Rule at h
  split at h
  · split at h
    · rename_i hz
      cases h
      exact ⟨FV.vs rfl hr, _, hr, fun aid ha => (by cases ha; exact hz), fun ha => (by cases ha)⟩
    · cases h
  · cases h
    exact ⟨FV.nilVs rfl hr, _, hr, fun aid ha => (by cases ha), fun _ => rfl⟩
  · cases h
noncomputable def row_u32 : AV U → Option (List Int) | .row C.u32 x => some x | .tip _ C.u32 x => some x | .flat (.slice none 0 0) => some [] | _ => none
theorem row_u32_fit {ren : List (Nat × Option Nat)} {v : AV U} {x : List Int} (h : row_u32 v = some x) : FV0 ren v (.row C.u32 x) := by
  unfold row_u32 at h
  split at h
  · cases h; exact FV.row rfl rfl
  · cases h; exact FV.row rfl rfl
  · cases h; exact FV.nilRow rfl
  · cases h
noncomputable def tip_u32 (o : List (Nat × Ev.Obj U)) (sz : Nat) : AV U → Option (Option Nat × List Int) | .tip i C.u32 x => (match lk o i with | some (.tip z) => cond (Nat.beq z sz) (some (some i, x)) none | _ => none) | .flat (.slice none 0 0) => some (none, []) | _ => none
theorem tip_u32_fit {ren : List (Nat × Option Nat)} {s : St U} {sz cid : Nat} {v : AV U} {q : Option Nat × List Int} (h : tip_u32 s.o sz v = some q) (hr : lk ren cid = some q.1) : FV0 ren v (.tip cid C.u32 q.2) ∧ FO ren s cid (.tip sz) := by
  unfold tip_u32 at h
  split at h
  · split at h
    · rename_i hz
      obtain ⟨hb, h2⟩ := cond_none h
      cases h2
      have hb := Nat.eq_of_beq_eq_true hb
      subst hb
      exact ⟨FV.tip rfl hr, _, hr, fun aid ha => by cases ha; exact hz⟩
    · cases h
  · cases h
    exact ⟨FV.nilTip rfl hr, _, hr, fun aid ha => by cases ha⟩
  · cases h
noncomputable def vec_u32 (o : List (Nat × Ev.Obj U)) : AV U → Option (Option Nat × List Int) | .vs i => (match lk o i with | some (.vec C.u32 x) => some (some i, x) | _ => none) | .flat (.slice none 0 0) => some (none, []) | _ => none
theorem vec_u32_fit {ren : List (Nat × Option Nat)} {s : St U} {cid : Nat} {v : AV U} {q : Option Nat × List Int} (h : vec_u32 s.o v = some q) (hr : lk ren cid = some q.1) : FV0 ren v (.vs cid) ∧ FO ren s cid (.vec C.u32 q.2) := by
  unfold vec_u32 at h
  split at h
  · split at h
    · rename_i hz
      cases h
      exact ⟨FV.vs rfl hr, _, hr, fun aid ha => (by cases ha; exact hz), fun ha => (by cases ha)⟩
    · cases h
  · cases h
    exact ⟨FV.nilVs rfl hr, _, hr, fun aid ha => (by cases ha), fun _ => rfl⟩
  · cases h
noncomputable def mc : List (Nat × (U.C × U.C)) := []
noncomputable def ec : List (Nat × U.C) := [(43, C.i64), (44, C.i64), (55, C.Sapi_Ent), (56, C.u64), (57, C.Sapi_Who), (58, C.Sapi_Rule)]
theorem mixed : Try.prog.follows .mixedOrders = true := by kernel_rfl
noncomputable def sl0 : List (Nat × SDen U) := []
theorem sl0_ok : ∀ p ∈ sl0, SfOk Try.prog DD p.1 p.2 ∧ ∀ args w, (callFunc p.1 args).run Try.prog w = .ok (.enter p.1 args) w := fun p hp => (List.not_mem_nil hp).elim
noncomputable def ta_Sapi_Policy_vvvvr (b : Nat) : Tp U Sapi_Policy := tAg [vVec DD (b + 1) C.Sapi_Ent, vVec DD (b + 2) C.u64, vVec DD (b + 3) C.Sapi_Who, vVec DD (b + 4) C.i64, vRow DD C.Sapi_Rule] (fun x => (x.f_Ents, x.f_Groups, x.f_Who, x.f_Up, x.f_Rules, ())) (fun h => (⟨h.1, h.2.1, h.2.2.1, h.2.2.2.1, h.2.2.2.2.1⟩ : Sapi_Policy)) (fun _ => rfl)
noncomputable def n0 : Nat → Bool := fun _ => false
noncomputable def n00 : FuncId → Nat → Bool := fun _ _ => false
noncomputable def nl0 : Nat → List Nat := fun _ => []
noncomputable def mkE (fn : Func) (fl : List (Pk Try.prog DD)) (jl : List (Nat × Jk U)) (ll : List (Nat × LDen U)) (md : List (Nat × (Nat × U.C))) (dy : TypeId → Bool) (vc : Nat → Bool) (gh : List Nat) (ow : Bool) (io : FuncId → Nat → Bool) (ld : Nat → List Nat) : Env U := { P := Try.prog, D := DD, fd := lk (fds fl), sf := lk sl0, ld := lk ll, jd := lk (jds jl), mode := lk md, elc := lk ec, mpc := lk mc, rts := fn.resultTypes.toList, dyn := dy, vecs := vc, results := fn.results.toList, gh := gh, own := ow, io := io, lds := ld }
theorem mkE_ok (fn : Func) (fl : List (Pk Try.prog DD)) (jl : List (Nat × Jk U)) (ll : List (Nat × LDen U)) (md : List (Nat × (Nat × U.C))) (dy : TypeId → Bool) (vc : Nat → Bool) (gh : List Nat) (ow : Bool) (io : FuncId → Nat → Bool) (ld : Nat → List Nat) : EnvOk (mkE fn fl jl ll md dy vc gh ow io ld) := envOk lawful (fds fl) sl0 ll (jds jl) _ _ _ _ _ _ _ _ _ _ _ (fds_ok fl) sl0_ok (jds_ok jl)
end
end Go.Proofs.Ythknecaigoilmaa
