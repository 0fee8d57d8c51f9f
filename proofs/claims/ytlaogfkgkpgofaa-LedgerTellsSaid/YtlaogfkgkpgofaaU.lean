import Derived.Test.YtlaogfkgkpgofaaEvC
import Derived.Test.YtlaogfkgkpgofaaProg
/-! This seat's types, told as plain data. Written by gen.py. -/
namespace Go.Proofs.Ytlaogfkgkpgofaa
open Go Go.Ev
noncomputable section
set_option linter.unusedVariables false
structure Spyxhand_Act where
  f_What : Int
  f_Who : Int
  f_A : Int
  f_B : Int
  f_C : Int
  f_N : Int
  f_Bend : Int
  f_L : List Int
noncomputable def Spyxhand_Act.zero : Spyxhand_Act := ⟨0, 0, 0, 0, 0, 0, 0, []⟩
structure Sapi_Dec where
  f_Neg : Bool
  f_C : (Int × Int)
  f_Scale : Int
noncomputable def Sapi_Dec.zero : Sapi_Dec := ⟨false, (0, 0), 0⟩
structure Sapi_Line where
  f_Acct : Int
  f_Amount : Sapi_Dec
  f_With : Int
noncomputable def Sapi_Line.zero : Sapi_Line := ⟨0, Sapi_Dec.zero, 0⟩
structure Sapi_Entry where
  f_Period : Int
  f_Lines : List Sapi_Line
  f_Of : Int
noncomputable def Sapi_Entry.zero : Sapi_Entry := ⟨0, [], 0⟩
structure Speriod_Table where
  f_Closed : List Bool
  f_Version : List Int
noncomputable def Speriod_Table.zero : Speriod_Table := ⟨[], []⟩
structure Sledger_Book where
  f_scale : Int
  f_l : List Sapi_Entry
  f_t : Speriod_Table
noncomputable def Sledger_Book.zero : Sledger_Book := ⟨0, [], Speriod_Table.zero⟩
structure Spyxref11_Table where
  f_Closed : List Bool
  f_Version : List Int
noncomputable def Spyxref11_Table.zero : Spyxref11_Table := ⟨[], []⟩
structure Spyxref11_Book where
  f_Scale : Int
  f_L : List Sapi_Entry
  f_T : Spyxref11_Table
noncomputable def Spyxref11_Book.zero : Spyxref11_Book := ⟨0, [], Spyxref11_Table.zero⟩
inductive C where
  | Sapi_Entry
  | i64
  | Sapi_Line
  | u32
  | u64
  | Spyxhand_Act
abbrev El : C → Type
  | .Sapi_Entry => Sapi_Entry
  | .i64 => Int
  | .Sapi_Line => Sapi_Line
  | .u32 => Int
  | .u64 => Int
  | .Spyxhand_Act => Spyxhand_Act
abbrev U : Univ := ⟨C, El⟩
noncomputable def deqC : DecidableEq U.C := fun a b => by cases a <;> cases b <;> first | exact isTrue rfl | exact isFalse (fun h => by cases h)
noncomputable def cd_Spyxhand_Act : Cd U Spyxhand_Act := Cd.iso (Cd.pair (Cd.int .i64) (Cd.pair (Cd.int .i64) (Cd.pair (Cd.int .i64) (Cd.pair (Cd.int .i64) (Cd.pair (Cd.int .i64) (Cd.pair (Cd.int .i64) (Cd.pair (Cd.int .i64) (Cd.pair (Cd.row deqC C.i64) Cd.unit)))))))) (fun x => ⟨x.1, x.2.1, x.2.2.1, x.2.2.2.1, x.2.2.2.2.1, x.2.2.2.2.2.1, x.2.2.2.2.2.2.1, x.2.2.2.2.2.2.2.1⟩) (fun x => (x.f_What, x.f_Who, x.f_A, x.f_B, x.f_C, x.f_N, x.f_Bend, x.f_L, ())) (fun _ => rfl)
noncomputable def cd_Sapi_Dec : Cd U Sapi_Dec := Cd.iso (Cd.pair Cd.bool (Cd.pair (Cd.pair (Cd.int .u64) (Cd.int .u64)) (Cd.pair (Cd.int .i64) Cd.unit))) (fun x => ⟨x.1, x.2.1, x.2.2.1⟩) (fun x => (x.f_Neg, x.f_C, x.f_Scale, ())) (fun _ => rfl)
noncomputable def cd_Sapi_Line : Cd U Sapi_Line := Cd.iso (Cd.pair (Cd.int .i64) (Cd.pair cd_Sapi_Dec (Cd.pair (Cd.int .i64) Cd.unit))) (fun x => ⟨x.1, x.2.1, x.2.2.1⟩) (fun x => (x.f_Acct, x.f_Amount, x.f_With, ())) (fun _ => rfl)
noncomputable def cd_Sapi_Entry : Cd U Sapi_Entry := Cd.iso (Cd.pair (Cd.int .i64) (Cd.pair (Cd.row deqC C.Sapi_Line) (Cd.pair (Cd.int .i64) Cd.unit))) (fun x => ⟨x.1, x.2.1, x.2.2.1⟩) (fun x => (x.f_Period, x.f_Lines, x.f_Of, ())) (fun _ => rfl)
noncomputable def cd_Speriod_Table : Cd U Speriod_Table := Cd.iso (Cd.pair (Cd.arr 12 false Cd.bool) (Cd.pair (Cd.arr 12 0 (Cd.int .i64)) Cd.unit)) (fun x => ⟨x.1, x.2.1⟩) (fun x => (x.f_Closed, x.f_Version, ())) (fun _ => rfl)
noncomputable def cd_Sledger_Book : Cd U Sledger_Book := Cd.iso (Cd.pair (Cd.int .i64) (Cd.pair (Cd.row deqC C.Sapi_Entry) (Cd.pair cd_Speriod_Table Cd.unit))) (fun x => ⟨x.1, x.2.1, x.2.2.1⟩) (fun x => (x.f_scale, x.f_l, x.f_t, ())) (fun _ => rfl)
noncomputable def cd_Spyxref11_Table : Cd U Spyxref11_Table := Cd.iso (Cd.pair (Cd.arr 12 false Cd.bool) (Cd.pair (Cd.arr 12 0 (Cd.int .i64)) Cd.unit)) (fun x => ⟨x.1, x.2.1⟩) (fun x => (x.f_Closed, x.f_Version, ())) (fun _ => rfl)
noncomputable def cd_Spyxref11_Book : Cd U Spyxref11_Book := Cd.iso (Cd.pair (Cd.int .i64) (Cd.pair (Cd.row deqC C.Sapi_Entry) (Cd.pair cd_Spyxref11_Table Cd.unit))) (fun x => ⟨x.1, x.2.1, x.2.2.1⟩) (fun x => (x.f_Scale, x.f_L, x.f_T, ())) (fun _ => rfl)
noncomputable def enc_Sapi_Entry (x : Sapi_Entry) : List (AV U) := [.flat (.int .i64 x.f_Period), .row C.Sapi_Line x.f_Lines, .flat (.int .i64 x.f_Of)]
noncomputable def dec_Sapi_Entry : List (AV U) → Option Sapi_Entry | [.flat (.int .i64 x1), .row C.Sapi_Line x2, .flat (.int .i64 x3)] => some (⟨x1, x2, x3⟩ : Sapi_Entry) | _ => none
theorem dec_enc_Sapi_Entry (cs : List (AV U)) (x : Sapi_Entry) (h : dec_Sapi_Entry cs = some x) : cs = enc_Sapi_Entry x := by
  unfold dec_Sapi_Entry at h
  split at h
  · cases h; rfl
  · cases h
noncomputable def enc_i64 (x : Int) : List (AV U) := [.flat (.int .i64 x)]
noncomputable def dec_i64 : List (AV U) → Option Int | [.flat (.int .i64 x1)] => some x1 | _ => none
theorem dec_enc_i64 (cs : List (AV U)) (x : Int) (h : dec_i64 cs = some x) : cs = enc_i64 x := by
  unfold dec_i64 at h
  split at h
  · cases h; rfl
  · cases h
noncomputable def enc_Sapi_Line (x : Sapi_Line) : List (AV U) := [.flat (.int .i64 x.f_Acct), .flat (.bool x.f_Amount.f_Neg), .flat (.int .u64 x.f_Amount.f_C.1), .flat (.int .u64 x.f_Amount.f_C.2), .flat (.int .i64 x.f_Amount.f_Scale), .flat (.int .i64 x.f_With)]
noncomputable def dec_Sapi_Line : List (AV U) → Option Sapi_Line | [.flat (.int .i64 x1), .flat (.bool x2), .flat (.int .u64 x3), .flat (.int .u64 x4), .flat (.int .i64 x5), .flat (.int .i64 x6)] => some (⟨x1, (⟨x2, (x3, x4), x5⟩ : Sapi_Dec), x6⟩ : Sapi_Line) | _ => none
theorem dec_enc_Sapi_Line (cs : List (AV U)) (x : Sapi_Line) (h : dec_Sapi_Line cs = some x) : cs = enc_Sapi_Line x := by
  unfold dec_Sapi_Line at h
  split at h
  · cases h; rfl
  · cases h
noncomputable def enc_u32 (x : Int) : List (AV U) := [.flat (.int .u32 x)]
noncomputable def dec_u32 : List (AV U) → Option Int | [.flat (.int .u32 x1)] => some x1 | _ => none
theorem dec_enc_u32 (cs : List (AV U)) (x : Int) (h : dec_u32 cs = some x) : cs = enc_u32 x := by
  unfold dec_u32 at h
  split at h
  · cases h; rfl
  · cases h
noncomputable def enc_u64 (x : Int) : List (AV U) := [.flat (.int .u64 x)]
noncomputable def dec_u64 : List (AV U) → Option Int | [.flat (.int .u64 x1)] => some x1 | _ => none
theorem dec_enc_u64 (cs : List (AV U)) (x : Int) (h : dec_u64 cs = some x) : cs = enc_u64 x := by
  unfold dec_u64 at h
  split at h
  · cases h; rfl
  · cases h
noncomputable def enc_Spyxhand_Act (x : Spyxhand_Act) : List (AV U) := cd_Spyxhand_Act.enc x
noncomputable def dec_Spyxhand_Act (cs : List (AV U)) : Option Spyxhand_Act := cd_Spyxhand_Act.full cs
theorem dec_enc_Spyxhand_Act (cs : List (AV U)) (x : Spyxhand_Act) (h : dec_Spyxhand_Act cs = some x) : cs = enc_Spyxhand_Act x := Cd.full_ok h
noncomputable def DD : Codec U where
  size := fun c => match c with | .Sapi_Entry => 3 | .i64 => 1 | .Sapi_Line => 6 | .u32 => 1 | .u64 => 1 | .Spyxhand_Act => 8
  enc := fun c => match c with | .Sapi_Entry => enc_Sapi_Entry | .i64 => enc_i64 | .Sapi_Line => enc_Sapi_Line | .u32 => enc_u32 | .u64 => enc_u64 | .Spyxhand_Act => enc_Spyxhand_Act
  dec := fun c => match c with | .Sapi_Entry => dec_Sapi_Entry | .i64 => dec_i64 | .Sapi_Line => dec_Sapi_Line | .u32 => dec_u32 | .u64 => dec_u64 | .Spyxhand_Act => dec_Spyxhand_Act
  dflt := fun c => match c with | .Sapi_Entry => (Sapi_Entry.zero : Sapi_Entry) | .i64 => (0 : Int) | .Sapi_Line => (Sapi_Line.zero : Sapi_Line) | .u32 => (0 : Int) | .u64 => (0 : Int) | .Spyxhand_Act => (Spyxhand_Act.zero : Spyxhand_Act)
  deq := deqC
  kinds := fun c => match c with | .Sapi_Entry => none | .i64 => none | .Sapi_Line => none | .u32 => none | .u64 => none | .Spyxhand_Act => none
  keq := fun c => match c with | .Sapi_Entry => fun _ _ => false | .i64 => fun _ _ => false | .Sapi_Line => fun _ _ => false | .u32 => fun _ _ => false | .u64 => fun _ _ => false | .Spyxhand_Act => fun _ _ => false
theorem lawful : Lawful DD where
  enc_len := fun c x => by cases c <;> rfl
  dec_enc := fun c cs x h => by
    cases c with
    | Sapi_Entry => exact dec_enc_Sapi_Entry cs x h
    | i64 => exact dec_enc_i64 cs x h
    | Sapi_Line => exact dec_enc_Sapi_Line cs x h
    | u32 => exact dec_enc_u32 cs x h
    | u64 => exact dec_enc_u64 cs x h
    | Spyxhand_Act => exact dec_enc_Spyxhand_Act cs x h
  enc_ok := fun c x v hv => List.all_eq_true.mp (show (DD.enc c x).all okCell = true by cases c <;> rfl) v hv
  keq_ok := fun c ks x y h => by
    cases c with
    | Sapi_Entry => cases h
    | i64 => cases h
    | Sapi_Line => cases h
    | u32 => cases h
    | u64 => cases h
    | Spyxhand_Act => cases h
  enc_c0 := fun c x v hv => List.all_eq_true.mp (show (DD.enc c x).all c0 = true by cases c <;> rfl) v hv
noncomputable def row_Sapi_Entry : AV U → Option (List Sapi_Entry) | .row C.Sapi_Entry x => some x | .tip _ C.Sapi_Entry x => some x | .flat (.slice none 0 0) => some [] | _ => none
theorem row_Sapi_Entry_fit {ren : List (Nat × Option Nat)} {v : AV U} {x : List Sapi_Entry} (h : row_Sapi_Entry v = some x) : FV0 ren v (.row C.Sapi_Entry x) := by
  unfold row_Sapi_Entry at h
  split at h
  · cases h; exact FV.row rfl rfl
  · cases h; exact FV.row rfl rfl
  · cases h; exact FV.nilRow rfl
  · cases h
noncomputable def tip_Sapi_Entry (o : List (Nat × Ev.Obj U)) (sz : Nat) : AV U → Option (Option Nat × List Sapi_Entry) | .tip i C.Sapi_Entry x => (match lk o i with | some (.tip z) => cond (Nat.beq z sz) (some (some i, x)) none | _ => none) | .flat (.slice none 0 0) => some (none, []) | _ => none
theorem tip_Sapi_Entry_fit {ren : List (Nat × Option Nat)} {s : St U} {sz cid : Nat} {v : AV U} {q : Option Nat × List Sapi_Entry} (h : tip_Sapi_Entry s.o sz v = some q) (hr : lk ren cid = some q.1) : FV0 ren v (.tip cid C.Sapi_Entry q.2) ∧ FO ren s cid (.tip sz) := by
  unfold tip_Sapi_Entry at h
  split at h
  · split at h
    · rename_i hz
      obtain ⟨hb, h2⟩ := cond_none h
      cases h2
      have hb := Nat.eq_of_beq_eq_true hb
      subst hb
      exact ⟨FV.tip rfl hr, _, hr, fun aid ha => by cases ha; exact hz⟩
    · cases h
  · cases h
    exact ⟨FV.nilTip rfl hr, _, hr, fun aid ha => by cases ha⟩
  · cases h
noncomputable def vec_Sapi_Entry (o : List (Nat × Ev.Obj U)) : AV U → Option (Option Nat × List Sapi_Entry) | .vs i => (match lk o i with | some (.vec C.Sapi_Entry x) => some (some i, x) | _ => none) | .flat (.slice none 0 0) => some (none, []) | _ => none
theorem vec_Sapi_Entry_fit {ren : List (Nat × Option Nat)} {s : St U} {cid : Nat} {v : AV U} {q : Option Nat × List Sapi_Entry} (h : vec_Sapi_Entry s.o v = some q) (hr : lk ren cid = some q.1) : FV0 ren v (.vs cid) ∧ FO ren s cid (.vec C.Sapi_Entry q.2) := by
  unfold vec_Sapi_Entry at h
  split at h
  · split at h
    · rename_i hz
      cases h
      exact ⟨FV.vs rfl hr, _, hr, fun aid ha => (by cases ha; exact hz), fun ha => (by cases ha)⟩
    · cases h
  · cases h
    exact ⟨FV.nilVs rfl hr, _, hr, fun aid ha => (by cases ha), fun _ => rfl⟩
  · cases h
noncomputable def row_i64 : AV U → Option (List Int) | .row C.i64 x => some x | .tip _ C.i64 x => some x | .flat (.slice none 0 0) => some [] | _ => none
theorem row_i64_fit {ren : List (Nat × Option Nat)} {v : AV U} {x : List Int} (h : row_i64 v = some x) : FV0 ren v (.row C.i64 x) := by
  unfold row_i64 at h
  split at h
  · cases h; exact FV.row rfl rfl
  · cases h; exact FV.row rfl rfl
  · cases h; exact FV.nilRow rfl
  · cases h
noncomputable def tip_i64 (o : List (Nat × Ev.Obj U)) (sz : Nat) : AV U → Option (Option Nat × List Int) | .tip i C.i64 x => (match lk o i with | some (.tip z) => cond (Nat.beq z sz) (some (some i, x)) none | _ => none) | .flat (.slice none 0 0) => some (none, []) | _ => none
theorem tip_i64_fit {ren : List (Nat × Option Nat)} {s : St U} {sz cid : Nat} {v : AV U} {q : Option Nat × List Int} (h : tip_i64 s.o sz v = some q) (hr : lk ren cid = some q.1) : FV0 ren v (.tip cid C.i64 q.2) ∧ FO ren s cid (.tip sz) := by
  unfold tip_i64 at h
  split at h
  · split at h
    · rename_i hz
      obtain ⟨hb, h2⟩ := cond_none h
      cases h2
      have hb := Nat.eq_of_beq_eq_true hb
      subst hb
      exact ⟨FV.tip rfl hr, _, hr, fun aid ha => by cases ha; exact hz⟩
    · cases h
  · cases h
    exact ⟨FV.nilTip rfl hr, _, hr, fun aid ha => by cases ha⟩
  · cases h
noncomputable def vec_i64 (o : List (Nat × Ev.Obj U)) : AV U → Option (Option Nat × List Int) | .vs i => (match lk o i with | some (.vec C.i64 x) => some (some i, x) | _ => none) | .flat (.slice none 0 0) => some (none, []) | _ => none
theorem vec_i64_fit {ren : List (Nat × Option Nat)} {s : St U} {cid : Nat} {v : AV U} {q : Option Nat × List Int} (h : vec_i64 s.o v = some q) (hr : lk ren cid = some q.1) : FV0 ren v (.vs cid) ∧ FO ren s cid (.vec C.i64 q.2) := by
  unfold vec_i64 at h
  split at h
  · split at h
    · rename_i hz
      cases h
      exact ⟨FV.vs rfl hr, _, hr, fun aid ha => (by cases ha; exact hz), fun ha => (by cases ha)⟩
    · cases h
  · cases h
    exact ⟨FV.nilVs rfl hr, _, hr, fun aid ha => (by cases ha), fun _ => rfl⟩
  · cases h
noncomputable def row_Sapi_Line : AV U → Option (List Sapi_Line) | .row C.Sapi_Line x => some x | .tip _ C.Sapi_Line x => some x | .flat (.slice none 0 0) => some [] | _ => none
theorem row_Sapi_Line_fit {ren : List (Nat × Option Nat)} {v : AV U} {x : List Sapi_Line} (h : row_Sapi_Line v = some x) : FV0 ren v (.row C.Sapi_Line x) := by
  unfold row_Sapi_Line at h
  split at h
  · cases h; exact FV.row rfl rfl
  · cases h; exact FV.row rfl rfl
  · cases h; exact FV.nilRow rfl
  · cases h
noncomputable def tip_Sapi_Line (o : List (Nat × Ev.Obj U)) (sz : Nat) : AV U → Option (Option Nat × List Sapi_Line) | .tip i C.Sapi_Line x => (match lk o i with | some (.tip z) => cond (Nat.beq z sz) (some (some i, x)) none | _ => none) | .flat (.slice none 0 0) => some (none, []) | _ => none
theorem tip_Sapi_Line_fit {ren : List (Nat × Option Nat)} {s : St U} {sz cid : Nat} {v : AV U} {q : Option Nat × List Sapi_Line} (h : tip_Sapi_Line s.o sz v = some q) (hr : lk ren cid = some q.1) : FV0 ren v (.tip cid C.Sapi_Line q.2) ∧ FO ren s cid (.tip sz) := by
  unfold tip_Sapi_Line at h
  split at h
  · split at h
    · rename_i hz
      obtain ⟨hb, h2⟩ := cond_none h
      cases h2
      have hb := Nat.eq_of_beq_eq_true hb
      subst hb
      exact ⟨FV.tip rfl hr, _, hr, fun aid ha => by cases ha; exact hz⟩
    · cases h
  · cases h
    exact ⟨FV.nilTip rfl hr, _, hr, fun aid ha => by cases ha⟩
  · cases h
noncomputable def vec_Sapi_Line (o : List (Nat × Ev.Obj U)) : AV U → Option (Option Nat × List Sapi_Line) | .vs i => (match lk o i with | some (.vec C.Sapi_Line x) => some (some i, x) | _ => none) | .flat (.slice none 0 0) => some (none, []) | _ => none
theorem vec_Sapi_Line_fit {ren : List (Nat × Option Nat)} {s : St U} {cid : Nat} {v : AV U} {q : Option Nat × List Sapi_Line} (h : vec_Sapi_Line s.o v = some q) (hr : lk ren cid = some q.1) : FV0 ren v (.vs cid) ∧ FO ren s cid (.vec C.Sapi_Line q.2) := by
  unfold vec_Sapi_Line at h
  split at h
  · split at h
    · rename_i hz
      cases h
      exact ⟨FV.vs rfl hr, _, hr, fun aid ha => (by cases ha; exact hz), fun ha => (by cases ha)⟩
    · cases h
  · cases h
    exact ⟨FV.nilVs rfl hr, _, hr, fun aid ha => (by cases ha), fun _ => rfl⟩
  · cases h
noncomputable def row_u32 : AV U → Option (List Int) | .row C.u32 x => some x | .tip _ C.u32 x => some x | .flat (.slice none 0 0) => some [] | _ => none
theorem row_u32_fit {ren : List (Nat × Option Nat)} {v : AV U} {x : List Int} (h : row_u32 v = some x) : FV0 ren v (.row C.u32 x) := by
  unfold row_u32 at h
  split at h
  · cases h; exact FV.row rfl rfl
  · cases h; exact FV.row rfl rfl
  · cases h; exact FV.nilRow rfl
  · cases h
noncomputable def tip_u32 (o : List (Nat × Ev.Obj U)) (sz : Nat) : AV U → Option (Option Nat × List Int) | .tip i C.u32 x => (match lk o i with | some (.tip z) => cond (Nat.beq z sz) (some (some i, x)) none | _ => none) | .flat (.slice none 0 0) => some (none, []) | _ => none
theorem tip_u32_fit {ren : List (Nat × Option Nat)} {s : St U} {sz cid : Nat} {v : AV U} {q : Option Nat × List Int} (h : tip_u32 s.o sz v = some q) (hr : lk ren cid = some q.1) : FV0 ren v (.tip cid C.u32 q.2) ∧ FO ren s cid (.tip sz) := by
  unfold tip_u32 at h
  split at h
  · split at h
    · rename_i hz
      obtain ⟨hb, h2⟩ := cond_none h
      cases h2
      have hb := Nat.eq_of_beq_eq_true hb
      subst hb
      exact ⟨FV.tip rfl hr, _, hr, fun aid ha => by cases ha; exact hz⟩
    · cases h
  · cases h
    exact ⟨FV.nilTip rfl hr, _, hr, fun aid ha => by cases ha⟩
  · cases h
noncomputable def vec_u32 (o : List (Nat × Ev.Obj U)) : AV U → Option (Option Nat × List Int) | .vs i => (match lk o i with | some (.vec C.u32 x) => some (some i, x) | _ => none) | .flat (.slice none 0 0) => some (none, []) | _ => none
theorem vec_u32_fit {ren : List (Nat × Option Nat)} {s : St U} {cid : Nat} {v : AV U} {q : Option Nat × List Int} (h : vec_u32 s.o v = some q) (hr : lk ren cid = some q.1) : FV0 ren v (.vs cid) ∧ FO ren s cid (.vec C.u32 q.2) := by
  unfold vec_u32 at h
  split at h
  · split at h
    · rename_i hz
      cases h
      exact ⟨FV.vs rfl hr, _, hr, fun aid ha => (by cases ha; exact hz), fun ha => (by cases ha)⟩
    · cases h
  · cases h
    exact ⟨FV.nilVs rfl hr, _, hr, fun aid ha => (by cases ha), fun _ => rfl⟩
  · cases h
noncomputable def row_u64 : AV U → Option (List Int) | .row C.u64 x => some x | .tip _ C.u64 x => some x | .flat (.slice none 0 0) => some [] | _ => none
theorem row_u64_fit {ren : List (Nat × Option Nat)} {v : AV U} {x : List Int} (h : row_u64 v = some x) : FV0 ren v (.row C.u64 x) := by
  unfold row_u64 at h
  split at h
  · cases h; exact FV.row rfl rfl
  · cases h; exact FV.row rfl rfl
  · cases h; exact FV.nilRow rfl
  · cases h
noncomputable def tip_u64 (o : List (Nat × Ev.Obj U)) (sz : Nat) : AV U → Option (Option Nat × List Int) | .tip i C.u64 x => (match lk o i with | some (.tip z) => cond (Nat.beq z sz) (some (some i, x)) none | _ => none) | .flat (.slice none 0 0) => some (none, []) | _ => none
theorem tip_u64_fit {ren : List (Nat × Option Nat)} {s : St U} {sz cid : Nat} {v : AV U} {q : Option Nat × List Int} (h : tip_u64 s.o sz v = some q) (hr : lk ren cid = some q.1) : FV0 ren v (.tip cid C.u64 q.2) ∧ FO ren s cid (.tip sz) := by
  unfold tip_u64 at h
  split at h
  · split at h
    · rename_i hz
      obtain ⟨hb, h2⟩ := cond_none h
      cases h2
      have hb := Nat.eq_of_beq_eq_true hb
      subst hb
      exact ⟨FV.tip rfl hr, _, hr, fun aid ha => by cases ha; exact hz⟩
    · cases h
  · cases h
    exact ⟨FV.nilTip rfl hr, _, hr, fun aid ha => by cases ha⟩
  · cases h
noncomputable def vec_u64 (o : List (Nat × Ev.Obj U)) : AV U → Option (Option Nat × List Int) | .vs i => (match lk o i with | some (.vec C.u64 x) => some (some i, x) | _ => none) | .flat (.slice none 0 0) => some (none, []) | _ => none
theorem vec_u64_fit {ren : List (Nat × Option Nat)} {s : St U} {cid : Nat} {v : AV U} {q : Option Nat × List Int} (h : vec_u64 s.o v = some q) (hr : lk ren cid = some q.1) : FV0 ren v (.vs cid) ∧ FO ren s cid (.vec C.u64 q.2) := by
  unfold vec_u64 at h
  split at h
  · split at h
    · rename_i hz
      cases h
      exact ⟨FV.vs rfl hr, _, hr, fun aid ha => (by cases ha; exact hz), fun ha => (by cases ha)⟩
    · cases h
  · cases h
    exact ⟨FV.nilVs rfl hr, _, hr, fun aid ha => (by cases ha), fun _ => rfl⟩
  · cases h
noncomputable def row_Spyxhand_Act : AV U → Option (List Spyxhand_Act) | .row C.Spyxhand_Act x => some x | .tip _ C.Spyxhand_Act x => some x | .flat (.slice none 0 0) => some [] | _ => none
theorem row_Spyxhand_Act_fit {ren : List (Nat × Option Nat)} {v : AV U} {x : List Spyxhand_Act} (h : row_Spyxhand_Act v = some x) : FV0 ren v (.row C.Spyxhand_Act x) := by
  unfold row_Spyxhand_Act at h
  split at h
  · cases h; exact FV.row rfl rfl
  · cases h; exact FV.row rfl rfl
  · cases h; exact FV.nilRow rfl
  · cases h
noncomputable def tip_Spyxhand_Act (o : List (Nat × Ev.Obj U)) (sz : Nat) : AV U → Option (Option Nat × List Spyxhand_Act) | .tip i C.Spyxhand_Act x => (match lk o i with | some (.tip z) => cond (Nat.beq z sz) (some (some i, x)) none | _ => none) | .flat (.slice none 0 0) => some (none, []) | _ => none
theorem tip_Spyxhand_Act_fit {ren : List (Nat × Option Nat)} {s : St U} {sz cid : Nat} {v : AV U} {q : Option Nat × List Spyxhand_Act} (h : tip_Spyxhand_Act s.o sz v = some q) (hr : lk ren cid = some q.1) : FV0 ren v (.tip cid C.Spyxhand_Act q.2) ∧ FO ren s cid (.tip sz) := by
  unfold tip_Spyxhand_Act at h
  split at h
  · split at h
    · rename_i hz
      obtain ⟨hb, h2⟩ := cond_none h
      cases h2
      have hb := Nat.eq_of_beq_eq_true hb
      subst hb
      exact ⟨FV.tip rfl hr, _, hr, fun aid ha => by cases ha; exact hz⟩
    · cases h
  · cases h
    exact ⟨FV.nilTip rfl hr, _, hr, fun aid ha => by cases ha⟩
  · cases h
noncomputable def vec_Spyxhand_Act (o : List (Nat × Ev.Obj U)) : AV U → Option (Option Nat × List Spyxhand_Act) | .vs i => (match lk o i with | some (.vec C.Spyxhand_Act x) => some (some i, x) | _ => none) | .flat (.slice none 0 0) => some (none, []) | _ => none
theorem vec_Spyxhand_Act_fit {ren : List (Nat × Option Nat)} {s : St U} {cid : Nat} {v : AV U} {q : Option Nat × List Spyxhand_Act} (h : vec_Spyxhand_Act s.o v = some q) (hr : lk ren cid = some q.1) : FV0 ren v (.vs cid) ∧ FO ren s cid (.vec C.Spyxhand_Act q.2) := by
  unfold vec_Spyxhand_Act at h
  split at h
  · split at h
    · rename_i hz
      cases h
      exact ⟨FV.vs rfl hr, _, hr, fun aid ha => (by cases ha; exact hz), fun ha => (by cases ha)⟩
    · cases h
  · cases h
    exact ⟨FV.nilVs rfl hr, _, hr, fun aid ha => (by cases ha), fun _ => rfl⟩
  · cases h
noncomputable def mc : List (Nat × (U.C × U.C)) := []
noncomputable def ec : List (Nat × U.C) := [(61, C.i64), (64, C.Sapi_Line), (70, C.Sapi_Entry), (76, C.Spyxhand_Act), (130, C.i64)]
theorem mixed : Try.prog.follows .mixedOrders = true := by kernel_rfl
noncomputable def sl0 : List (Nat × SDen U) := []
theorem sl0_ok : ∀ p ∈ sl0, SfOk Try.prog DD p.1 p.2 ∧ ∀ args w, (callFunc p.1 args).run Try.prog w = .ok (.enter p.1 args) w := fun p hp => (List.not_mem_nil hp).elim
noncomputable def io_Sledger_Book_rt (i b : Nat) : Tp U Sledger_Book := tIo i (bLitT i [vInt .i64, vTip DD (b + 2) C.Sapi_Entry 3] cd_Speriod_Table) (fun x => (x.f_scale, x.f_l, x.f_t, ())) (fun h => (⟨h.1, h.2.1, h.2.2.1⟩ : Sledger_Book)) (fun _ => rfl)
noncomputable def io_Spyxref11_Book_rt (i b : Nat) : Tp U Spyxref11_Book := tIo i (bLitT i [vInt .i64, vTip DD (b + 2) C.Sapi_Entry 3] cd_Spyxref11_Table) (fun x => (x.f_Scale, x.f_L, x.f_T, ())) (fun h => (⟨h.1, h.2.1, h.2.2.1⟩ : Spyxref11_Book)) (fun _ => rfl)
noncomputable def n0 : Nat → Bool := fun _ => false
noncomputable def n00 : FuncId → Nat → Bool := fun _ _ => false
noncomputable def mkE (fn : Func) (fl : List (Pk Try.prog DD)) (jl : List (Nat × Jk U)) (ll : List (Nat × LDen U)) (md : List (Nat × (Nat × U.C))) (dy : TypeId → Bool) (vc : Nat → Bool) (gh : List Nat) (ow : Bool) (io : FuncId → Nat → Bool) : Env U := { P := Try.prog, D := DD, fd := lk (fds fl), sf := lk sl0, ld := lk ll, jd := lk (jds jl), mode := lk md, elc := lk ec, mpc := lk mc, rts := fn.resultTypes.toList, dyn := dy, vecs := vc, results := fn.results.toList, gh := gh, own := ow, io := io }
theorem mkE_ok (fn : Func) (fl : List (Pk Try.prog DD)) (jl : List (Nat × Jk U)) (ll : List (Nat × LDen U)) (md : List (Nat × (Nat × U.C))) (dy : TypeId → Bool) (vc : Nat → Bool) (gh : List Nat) (ow : Bool) (io : FuncId → Nat → Bool) : EnvOk (mkE fn fl jl ll md dy vc gh ow io) := envOk lawful (fds fl) sl0 ll (jds jl) _ _ _ _ _ _ _ _ _ _ (fds_ok fl) sl0_ok (jds_ok jl)
end
end Go.Proofs.Ytlaogfkgkpgofaa
