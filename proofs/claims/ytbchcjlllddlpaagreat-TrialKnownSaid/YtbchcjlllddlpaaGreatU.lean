import Derived.Test.YtbchcjlllddlpaaGreatEvC
import Derived.Test.YtbchcjlllddlpaaGreatProg
/-! This seat's types, told as plain data. Written by gen.py. -/
namespace Go.Proofs.YtbchcjlllddlpaaGreat
open Go Go.Ev
noncomputable section
set_option linter.unusedVariables false
structure Sapi_Dec where
  f_Neg : Bool
  f_C : (Int × Int)
  f_Scale : Int
noncomputable def Sapi_Dec.zero : Sapi_Dec := ⟨false, (0, 0), 0⟩
structure Sapi_Line where
  f_Acct : Int
  f_Amount : Sapi_Dec
  f_With : Int
noncomputable def Sapi_Line.zero : Sapi_Line := ⟨0, Sapi_Dec.zero, 0⟩
structure Sapi_Entry where
  f_Period : Int
  f_Lines : List Sapi_Line
  f_Of : Int
noncomputable def Sapi_Entry.zero : Sapi_Entry := ⟨0, [], 0⟩
structure Speriod_Table where
  f_Closed : List Bool
  f_Version : List Int
noncomputable def Speriod_Table.zero : Speriod_Table := ⟨[], []⟩
structure Sledger_Book where
  f_scale : Int
  f_l : List Sapi_Entry
  f_t : Speriod_Table
noncomputable def Sledger_Book.zero : Sledger_Book := ⟨0, [], Speriod_Table.zero⟩
inductive C where
  | Sapi_Entry
  | i64
  | a2_i64
  | Sapi_Dec
  | Sapi_Line
  | u32
  | u64
abbrev El : C → Type
  | .Sapi_Entry => Sapi_Entry
  | .i64 => Int
  | .a2_i64 => (Int × Int)
  | .Sapi_Dec => Sapi_Dec
  | .Sapi_Line => Sapi_Line
  | .u32 => Int
  | .u64 => Int
abbrev U : Univ := ⟨C, El⟩
noncomputable def deqC : DecidableEq U.C := fun a b => by cases a <;> cases b <;> first | exact isTrue rfl | exact isFalse (fun h => by cases h)
noncomputable def cd_Sapi_Dec : Cd U Sapi_Dec := Cd.iso (Cd.pair Cd.bool (Cd.pair (Cd.pair (Cd.int .u64) (Cd.int .u64)) (Cd.pair (Cd.int .i64) Cd.unit))) (fun x => ⟨x.1, x.2.1, x.2.2.1⟩) (fun x => (x.f_Neg, x.f_C, x.f_Scale, ())) (fun _ => rfl)
noncomputable def cd_Sapi_Line : Cd U Sapi_Line := Cd.iso (Cd.pair (Cd.int .i64) (Cd.pair cd_Sapi_Dec (Cd.pair (Cd.int .i64) Cd.unit))) (fun x => ⟨x.1, x.2.1, x.2.2.1⟩) (fun x => (x.f_Acct, x.f_Amount, x.f_With, ())) (fun _ => rfl)
noncomputable def cd_Sapi_Entry : Cd U Sapi_Entry := Cd.iso (Cd.pair (Cd.int .i64) (Cd.pair (Cd.row deqC C.Sapi_Line) (Cd.pair (Cd.int .i64) Cd.unit))) (fun x => ⟨x.1, x.2.1, x.2.2.1⟩) (fun x => (x.f_Period, x.f_Lines, x.f_Of, ())) (fun _ => rfl)
noncomputable def cd_Speriod_Table : Cd U Speriod_Table := Cd.iso (Cd.pair (Cd.arr 12 false Cd.bool) (Cd.pair (Cd.arr 12 0 (Cd.int .i64)) Cd.unit)) (fun x => ⟨x.1, x.2.1⟩) (fun x => (x.f_Closed, x.f_Version, ())) (fun _ => rfl)
noncomputable def cd_Sledger_Book : Cd U Sledger_Book := Cd.iso (Cd.pair (Cd.int .i64) (Cd.pair (Cd.row deqC C.Sapi_Entry) (Cd.pair cd_Speriod_Table Cd.unit))) (fun x => ⟨x.1, x.2.1, x.2.2.1⟩) (fun x => (x.f_scale, x.f_l, x.f_t, ())) (fun _ => rfl)
noncomputable def enc_Sapi_Entry (x : Sapi_Entry) : List (AV U) := [.flat (.int .i64 x.f_Period), .row C.Sapi_Line x.f_Lines, .flat (.int .i64 x.f_Of)]
noncomputable def dec_Sapi_Entry : List (AV U) → Option Sapi_Entry | [.flat (.int .i64 x1), .row C.Sapi_Line x2, .flat (.int .i64 x3)] => some (⟨x1, x2, x3⟩ : Sapi_Entry) | _ => none
theorem dec_enc_Sapi_Entry (cs : List (AV U)) (x : Sapi_Entry) (h : dec_Sapi_Entry cs = some x) : cs = enc_Sapi_Entry x := by
  unfold dec_Sapi_Entry at h
  split at h
  · cases h; rfl
  · cases h
noncomputable def enc_i64 (x : Int) : List (AV U) := [.flat (.int .i64 x)]
noncomputable def dec_i64 : List (AV U) → Option Int | [.flat (.int .i64 x1)] => some x1 | _ => none
theorem dec_enc_i64 (cs : List (AV U)) (x : Int) (h : dec_i64 cs = some x) : cs = enc_i64 x := by
  unfold dec_i64 at h
  split at h
  · cases h; rfl
  · cases h
noncomputable def enc_a2_i64 (x : (Int × Int)) : List (AV U) := [.flat (.int .i64 x.1), .flat (.int .i64 x.2)]
noncomputable def dec_a2_i64 : List (AV U) → Option (Int × Int) | [.flat (.int .i64 x1), .flat (.int .i64 x2)] => some (x1, x2) | _ => none
theorem dec_enc_a2_i64 (cs : List (AV U)) (x : (Int × Int)) (h : dec_a2_i64 cs = some x) : cs = enc_a2_i64 x := by
  unfold dec_a2_i64 at h
  split at h
  · cases h; rfl
  · cases h
noncomputable def enc_Sapi_Dec (x : Sapi_Dec) : List (AV U) := [.flat (.bool x.f_Neg), .flat (.int .u64 x.f_C.1), .flat (.int .u64 x.f_C.2), .flat (.int .i64 x.f_Scale)]
noncomputable def dec_Sapi_Dec : List (AV U) → Option Sapi_Dec | [.flat (.bool x1), .flat (.int .u64 x2), .flat (.int .u64 x3), .flat (.int .i64 x4)] => some (⟨x1, (x2, x3), x4⟩ : Sapi_Dec) | _ => none
theorem dec_enc_Sapi_Dec (cs : List (AV U)) (x : Sapi_Dec) (h : dec_Sapi_Dec cs = some x) : cs = enc_Sapi_Dec x := by
  unfold dec_Sapi_Dec at h
  split at h
  · cases h; rfl
  · cases h
noncomputable def enc_Sapi_Line (x : Sapi_Line) : List (AV U) := [.flat (.int .i64 x.f_Acct), .flat (.bool x.f_Amount.f_Neg), .flat (.int .u64 x.f_Amount.f_C.1), .flat (.int .u64 x.f_Amount.f_C.2), .flat (.int .i64 x.f_Amount.f_Scale), .flat (.int .i64 x.f_With)]
noncomputable def dec_Sapi_Line : List (AV U) → Option Sapi_Line | [.flat (.int .i64 x1), .flat (.bool x2), .flat (.int .u64 x3), .flat (.int .u64 x4), .flat (.int .i64 x5), .flat (.int .i64 x6)] => some (⟨x1, (⟨x2, (x3, x4), x5⟩ : Sapi_Dec), x6⟩ : Sapi_Line) | _ => none
theorem dec_enc_Sapi_Line (cs : List (AV U)) (x : Sapi_Line) (h : dec_Sapi_Line cs = some x) : cs = enc_Sapi_Line x := by
  unfold dec_Sapi_Line at h
  split at h
  · cases h; rfl
  · cases h
noncomputable def enc_u32 (x : Int) : List (AV U) := [.flat (.int .u32 x)]
noncomputable def dec_u32 : List (AV U) → Option Int | [.flat (.int .u32 x1)] => some x1 | _ => none
theorem dec_enc_u32 (cs : List (AV U)) (x : Int) (h : dec_u32 cs = some x) : cs = enc_u32 x := by
  unfold dec_u32 at h
  split at h
  · cases h; rfl
  · cases h
noncomputable def enc_u64 (x : Int) : List (AV U) := [.flat (.int .u64 x)]
noncomputable def dec_u64 : List (AV U) → Option Int | [.flat (.int .u64 x1)] => some x1 | _ => none
theorem dec_enc_u64 (cs : List (AV U)) (x : Int) (h : dec_u64 cs = some x) : cs = enc_u64 x := by
  unfold dec_u64 at h
  split at h
  · cases h; rfl
  · cases h
noncomputable def keq_a2_i64 (x y : (Int × Int)) : Bool := (x.1 == y.1) && (x.2 == y.2)
noncomputable def keq_Sapi_Dec (x y : Sapi_Dec) : Bool := (x.f_Neg == y.f_Neg) && ((x.f_C.1 == y.f_C.1) && ((x.f_C.2 == y.f_C.2) && (x.f_Scale == y.f_Scale)))
noncomputable def DD : Codec U where
  size := fun c => match c with | .Sapi_Entry => 3 | .i64 => 1 | .a2_i64 => 2 | .Sapi_Dec => 4 | .Sapi_Line => 6 | .u32 => 1 | .u64 => 1
  enc := fun c => match c with | .Sapi_Entry => enc_Sapi_Entry | .i64 => enc_i64 | .a2_i64 => enc_a2_i64 | .Sapi_Dec => enc_Sapi_Dec | .Sapi_Line => enc_Sapi_Line | .u32 => enc_u32 | .u64 => enc_u64
  dec := fun c => match c with | .Sapi_Entry => dec_Sapi_Entry | .i64 => dec_i64 | .a2_i64 => dec_a2_i64 | .Sapi_Dec => dec_Sapi_Dec | .Sapi_Line => dec_Sapi_Line | .u32 => dec_u32 | .u64 => dec_u64
  dflt := fun c => match c with | .Sapi_Entry => (Sapi_Entry.zero : Sapi_Entry) | .i64 => (0 : Int) | .a2_i64 => ((0, 0) : (Int × Int)) | .Sapi_Dec => (Sapi_Dec.zero : Sapi_Dec) | .Sapi_Line => (Sapi_Line.zero : Sapi_Line) | .u32 => (0 : Int) | .u64 => (0 : Int)
  deq := deqC
  kinds := fun c => match c with | .Sapi_Entry => none | .i64 => none | .a2_i64 => some [0, 0] | .Sapi_Dec => some [1, 0, 0, 0] | .Sapi_Line => none | .u32 => none | .u64 => none
  keq := fun c => match c with | .Sapi_Entry => fun _ _ => false | .i64 => fun _ _ => false | .a2_i64 => keq_a2_i64 | .Sapi_Dec => keq_Sapi_Dec | .Sapi_Line => fun _ _ => false | .u32 => fun _ _ => false | .u64 => fun _ _ => false
theorem lawful : Lawful DD where
  enc_len := fun c x => by cases c <;> rfl
  dec_enc := fun c cs x h => by
    cases c with
    | Sapi_Entry => exact dec_enc_Sapi_Entry cs x h
    | i64 => exact dec_enc_i64 cs x h
    | a2_i64 => exact dec_enc_a2_i64 cs x h
    | Sapi_Dec => exact dec_enc_Sapi_Dec cs x h
    | Sapi_Line => exact dec_enc_Sapi_Line cs x h
    | u32 => exact dec_enc_u32 cs x h
    | u64 => exact dec_enc_u64 cs x h
  enc_ok := fun c x v hv => List.all_eq_true.mp (show (DD.enc c x).all okCell = true by cases c <;> rfl) v hv
  keq_ok := fun c ks x y h => by
    cases c with
    | Sapi_Entry => cases h
    | i64 => cases h
    | a2_i64 => cases h; rfl
    | Sapi_Dec => cases h; rfl
    | Sapi_Line => cases h
    | u32 => cases h
    | u64 => cases h
  enc_c0 := fun c x v hv => List.all_eq_true.mp (show (DD.enc c x).all c0 = true by cases c <;> rfl) v hv
noncomputable def row_Sapi_Entry : AV U → Option (List Sapi_Entry) | .row C.Sapi_Entry x => some x | .tip _ C.Sapi_Entry x => some x | .flat (.slice none 0 0) => some [] | _ => none
theorem row_Sapi_Entry_fit {ren : List (Nat × Option Nat)} {v : AV U} {x : List Sapi_Entry} (h : row_Sapi_Entry v = some x) : FV0 ren v (.row C.Sapi_Entry x) := by
  unfold row_Sapi_Entry at h
  split at h
  · cases h; exact FV.row rfl rfl
  · cases h; exact FV.row rfl rfl
  · cases h; exact FV.nilRow rfl
  · cases h
noncomputable def tip_Sapi_Entry (o : List (Nat × Ev.Obj U)) (sz : Nat) : AV U → Option (Option Nat × List Sapi_Entry) | .tip i C.Sapi_Entry x => (match lk o i with | some (.tip z) => cond (Nat.beq z sz) (some (some i, x)) none | _ => none) | .flat (.slice none 0 0) => some (none, []) | _ => none
theorem tip_Sapi_Entry_fit {ren : List (Nat × Option Nat)} {s : St U} {sz cid : Nat} {v : AV U} {q : Option Nat × List Sapi_Entry} (h : tip_Sapi_Entry s.o sz v = some q) (hr : lk ren cid = some q.1) : FV0 ren v (.tip cid C.Sapi_Entry q.2) ∧ FO ren s cid (.tip sz) := by
  unfold tip_Sapi_Entry at h
  split at h
  · split at h
    · rename_i hz
      obtain ⟨hb, h2⟩ := cond_none h
      cases h2
      have hb := Nat.eq_of_beq_eq_true hb
      subst hb
      exact ⟨FV.tip rfl hr, _, hr, fun aid ha => by cases ha; exact hz⟩
    · cases h
  · cases h
    exact ⟨FV.nilTip rfl hr, _, hr, fun aid ha => by cases ha⟩
  · cases h
noncomputable def vec_Sapi_Entry (o : List (Nat × Ev.Obj U)) : AV U → Option (Option Nat × List Sapi_Entry) | .vs i => (match lk o i with | some (.vec C.Sapi_Entry x) => some (some i, x) | _ => none) | .flat (.slice none 0 0) => some (none, []) | _ => none
theorem vec_Sapi_Entry_fit {ren : List (Nat × Option Nat)} {s : St U} {cid : Nat} {v : AV U} {q : Option Nat × List Sapi_Entry} (h : vec_Sapi_Entry s.o v = some q) (hr : lk ren cid = some q.1) : FV0 ren v (.vs cid) ∧ FO ren s cid (.vec C.Sapi_Entry q.2) := by
  unfold vec_Sapi_Entry at h
  split at h
  · split at h
    · rename_i hz
      cases h
      exact ⟨FV.vs rfl hr, _, hr, fun aid ha => (by cases ha; exact hz), fun ha => (by cases ha)⟩
    · cases h
  · cases h
    exact ⟨FV.nilVs rfl hr, _, hr, fun aid ha => (by cases ha), fun _ => rfl⟩
  · cases h
noncomputable def row_i64 : AV U → Option (List Int) | .row C.i64 x => some x | .tip _ C.i64 x => some x | .flat (.slice none 0 0) => some [] | _ => none
theorem row_i64_fit {ren : List (Nat × Option Nat)} {v : AV U} {x : List Int} (h : row_i64 v = some x) : FV0 ren v (.row C.i64 x) := by
  unfold row_i64 at h
  split at h
  · cases h; exact FV.row rfl rfl
  · cases h; exact FV.row rfl rfl
  · cases h; exact FV.nilRow rfl
  · cases h
noncomputable def tip_i64 (o : List (Nat × Ev.Obj U)) (sz : Nat) : AV U → Option (Option Nat × List Int) | .tip i C.i64 x => (match lk o i with | some (.tip z) => cond (Nat.beq z sz) (some (some i, x)) none | _ => none) | .flat (.slice none 0 0) => some (none, []) | _ => none
theorem tip_i64_fit {ren : List (Nat × Option Nat)} {s : St U} {sz cid : Nat} {v : AV U} {q : Option Nat × List Int} (h : tip_i64 s.o sz v = some q) (hr : lk ren cid = some q.1) : FV0 ren v (.tip cid C.i64 q.2) ∧ FO ren s cid (.tip sz) := by
  unfold tip_i64 at h
  split at h
  · split at h
    · rename_i hz
      obtain ⟨hb, h2⟩ := cond_none h
      cases h2
      have hb := Nat.eq_of_beq_eq_true hb
      subst hb
      exact ⟨FV.tip rfl hr, _, hr, fun aid ha => by cases ha; exact hz⟩
    · cases h
  · cases h
    exact ⟨FV.nilTip rfl hr, _, hr, fun aid ha => by cases ha⟩
  · cases h
noncomputable def vec_i64 (o : List (Nat × Ev.Obj U)) : AV U → Option (Option Nat × List Int) | .vs i => (match lk o i with | some (.vec C.i64 x) => some (some i, x) | _ => none) | .flat (.slice none 0 0) => some (none, []) | _ => none
theorem vec_i64_fit {ren : List (Nat × Option Nat)} {s : St U} {cid : Nat} {v : AV U} {q : Option Nat × List Int} (h : vec_i64 s.o v = some q) (hr : lk ren cid = some q.1) : FV0 ren v (.vs cid) ∧ FO ren s cid (.vec C.i64 q.2) := by
  unfold vec_i64 at h
  split at h
  · split at h
    · rename_i hz
      cases h
      exact ⟨FV.vs rfl hr, _, hr, fun aid ha => (by cases ha; exact hz), fun ha => (by cases ha)⟩
    · cases h
  · cases h
    exact ⟨FV.nilVs rfl hr, _, hr, fun aid ha => (by cases ha), fun _ => rfl⟩
  · cases h
noncomputable def row_a2_i64 : AV U → Option (List (Int × Int)) | .row C.a2_i64 x => some x | .tip _ C.a2_i64 x => some x | .flat (.slice none 0 0) => some [] | _ => none
theorem row_a2_i64_fit {ren : List (Nat × Option Nat)} {v : AV U} {x : List (Int × Int)} (h : row_a2_i64 v = some x) : FV0 ren v (.row C.a2_i64 x) := by
  unfold row_a2_i64 at h
  split at h
  · cases h; exact FV.row rfl rfl
  · cases h; exact FV.row rfl rfl
  · cases h; exact FV.nilRow rfl
  · cases h
noncomputable def tip_a2_i64 (o : List (Nat × Ev.Obj U)) (sz : Nat) : AV U → Option (Option Nat × List (Int × Int)) | .tip i C.a2_i64 x => (match lk o i with | some (.tip z) => cond (Nat.beq z sz) (some (some i, x)) none | _ => none) | .flat (.slice none 0 0) => some (none, []) | _ => none
theorem tip_a2_i64_fit {ren : List (Nat × Option Nat)} {s : St U} {sz cid : Nat} {v : AV U} {q : Option Nat × List (Int × Int)} (h : tip_a2_i64 s.o sz v = some q) (hr : lk ren cid = some q.1) : FV0 ren v (.tip cid C.a2_i64 q.2) ∧ FO ren s cid (.tip sz) := by
  unfold tip_a2_i64 at h
  split at h
  · split at h
    · rename_i hz
      obtain ⟨hb, h2⟩ := cond_none h
      cases h2
      have hb := Nat.eq_of_beq_eq_true hb
      subst hb
      exact ⟨FV.tip rfl hr, _, hr, fun aid ha => by cases ha; exact hz⟩
    · cases h
  · cases h
    exact ⟨FV.nilTip rfl hr, _, hr, fun aid ha => by cases ha⟩
  · cases h
noncomputable def vec_a2_i64 (o : List (Nat × Ev.Obj U)) : AV U → Option (Option Nat × List (Int × Int)) | .vs i => (match lk o i with | some (.vec C.a2_i64 x) => some (some i, x) | _ => none) | .flat (.slice none 0 0) => some (none, []) | _ => none
theorem vec_a2_i64_fit {ren : List (Nat × Option Nat)} {s : St U} {cid : Nat} {v : AV U} {q : Option Nat × List (Int × Int)} (h : vec_a2_i64 s.o v = some q) (hr : lk ren cid = some q.1) : FV0 ren v (.vs cid) ∧ FO ren s cid (.vec C.a2_i64 q.2) := by
  unfold vec_a2_i64 at h
  split at h
  · split at h
    · rename_i hz
      cases h
      exact ⟨FV.vs rfl hr, _, hr, fun aid ha => (by cases ha; exact hz), fun ha => (by cases ha)⟩
    · cases h
  · cases h
    exact ⟨FV.nilVs rfl hr, _, hr, fun aid ha => (by cases ha), fun _ => rfl⟩
  · cases h
noncomputable def row_Sapi_Dec : AV U → Option (List Sapi_Dec) | .row C.Sapi_Dec x => some x | .tip _ C.Sapi_Dec x => some x | .flat (.slice none 0 0) => some [] | _ => none
theorem row_Sapi_Dec_fit {ren : List (Nat × Option Nat)} {v : AV U} {x : List Sapi_Dec} (h : row_Sapi_Dec v = some x) : FV0 ren v (.row C.Sapi_Dec x) := by
  unfold row_Sapi_Dec at h
  split at h
  · cases h; exact FV.row rfl rfl
  · cases h; exact FV.row rfl rfl
  · cases h; exact FV.nilRow rfl
  · cases h
noncomputable def tip_Sapi_Dec (o : List (Nat × Ev.Obj U)) (sz : Nat) : AV U → Option (Option Nat × List Sapi_Dec) | .tip i C.Sapi_Dec x => (match lk o i with | some (.tip z) => cond (Nat.beq z sz) (some (some i, x)) none | _ => none) | .flat (.slice none 0 0) => some (none, []) | _ => none
theorem tip_Sapi_Dec_fit {ren : List (Nat × Option Nat)} {s : St U} {sz cid : Nat} {v : AV U} {q : Option Nat × List Sapi_Dec} (h : tip_Sapi_Dec s.o sz v = some q) (hr : lk ren cid = some q.1) : FV0 ren v (.tip cid C.Sapi_Dec q.2) ∧ FO ren s cid (.tip sz) := by
  unfold tip_Sapi_Dec at h
  split at h
  · split at h
    · rename_i hz
      obtain ⟨hb, h2⟩ := cond_none h
      cases h2
      have hb := Nat.eq_of_beq_eq_true hb
      subst hb
      exact ⟨FV.tip rfl hr, _, hr, fun aid ha => by cases ha; exact hz⟩
    · cases h
  · cases h
    exact ⟨FV.nilTip rfl hr, _, hr, fun aid ha => by cases ha⟩
  · cases h
noncomputable def vec_Sapi_Dec (o : List (Nat × Ev.Obj U)) : AV U → Option (Option Nat × List Sapi_Dec) | .vs i => (match lk o i with | some (.vec C.Sapi_Dec x) => some (some i, x) | _ => none) | .flat (.slice none 0 0) => some (none, []) | _ => none
theorem vec_Sapi_Dec_fit {ren : List (Nat × Option Nat)} {s : St U} {cid : Nat} {v : AV U} {q : Option Nat × List Sapi_Dec} (h : vec_Sapi_Dec s.o v = some q) (hr : lk ren cid = some q.1) : FV0 ren v (.vs cid) ∧ FO ren s cid (.vec C.Sapi_Dec q.2) := by
  unfold vec_Sapi_Dec at h
  split at h
  · split at h
    · rename_i hz
      cases h
      exact ⟨FV.vs rfl hr, _, hr, fun aid ha => (by cases ha; exact hz), fun ha => (by cases ha)⟩
    · cases h
  · cases h
    exact ⟨FV.nilVs rfl hr, _, hr, fun aid ha => (by cases ha), fun _ => rfl⟩
  · cases h
noncomputable def row_Sapi_Line : AV U → Option (List Sapi_Line) | .row C.Sapi_Line x => some x | .tip _ C.Sapi_Line x => some x | .flat (.slice none 0 0) => some [] | _ => none
theorem row_Sapi_Line_fit {ren : List (Nat × Option Nat)} {v : AV U} {x : List Sapi_Line} (h : row_Sapi_Line v = some x) : FV0 ren v (.row C.Sapi_Line x) := by
  unfold row_Sapi_Line at h
  split at h
  · cases h; exact FV.row rfl rfl
  · cases h; exact FV.row rfl rfl
  · cases h; exact FV.nilRow rfl
  · cases h
noncomputable def tip_Sapi_Line (o : List (Nat × Ev.Obj U)) (sz : Nat) : AV U → Option (Option Nat × List Sapi_Line) | .tip i C.Sapi_Line x => (match lk o i with | some (.tip z) => cond (Nat.beq z sz) (some (some i, x)) none | _ => none) | .flat (.slice none 0 0) => some (none, []) | _ => none
theorem tip_Sapi_Line_fit {ren : List (Nat × Option Nat)} {s : St U} {sz cid : Nat} {v : AV U} {q : Option Nat × List Sapi_Line} (h : tip_Sapi_Line s.o sz v = some q) (hr : lk ren cid = some q.1) : FV0 ren v (.tip cid C.Sapi_Line q.2) ∧ FO ren s cid (.tip sz) := by
  unfold tip_Sapi_Line at h
  split at h
  · split at h
    · rename_i hz
      obtain ⟨hb, h2⟩ := cond_none h
      cases h2
      have hb := Nat.eq_of_beq_eq_true hb
      subst hb
      exact ⟨FV.tip rfl hr, _, hr, fun aid ha => by cases ha; exact hz⟩
    · cases h
  · cases h
    exact ⟨FV.nilTip rfl hr, _, hr, fun aid ha => by cases ha⟩
  · cases h
noncomputable def vec_Sapi_Line (o : List (Nat × Ev.Obj U)) : AV U → Option (Option Nat × List Sapi_Line) | .vs i => (match lk o i with | some (.vec C.Sapi_Line x) => some (some i, x) | _ => none) | .flat (.slice none 0 0) => some (none, []) | _ => none
theorem vec_Sapi_Line_fit {ren : List (Nat × Option Nat)} {s : St U} {cid : Nat} {v : AV U} {q : Option Nat × List Sapi_Line} (h : vec_Sapi_Line s.o v = some q) (hr : lk ren cid = some q.1) : FV0 ren v (.vs cid) ∧ FO ren s cid (.vec C.Sapi_Line q.2) := by
  unfold vec_Sapi_Line at h
  split at h
  · split at h
    · rename_i hz
      cases h
      exact ⟨FV.vs rfl hr, _, hr, fun aid ha => (by cases ha; exact hz), fun ha => (by cases ha)⟩
    · cases h
  · cases h
    exact ⟨FV.nilVs rfl hr, _, hr, fun aid ha => (by cases ha), fun _ => rfl⟩
  · cases h
noncomputable def row_u32 : AV U → Option (List Int) | .row C.u32 x => some x | .tip _ C.u32 x => some x | .flat (.slice none 0 0) => some [] | _ => none
theorem row_u32_fit {ren : List (Nat × Option Nat)} {v : AV U} {x : List Int} (h : row_u32 v = some x) : FV0 ren v (.row C.u32 x) := by
  unfold row_u32 at h
  split at h
  · cases h; exact FV.row rfl rfl
  · cases h; exact FV.row rfl rfl
  · cases h; exact FV.nilRow rfl
  · cases h
noncomputable def tip_u32 (o : List (Nat × Ev.Obj U)) (sz : Nat) : AV U → Option (Option Nat × List Int) | .tip i C.u32 x => (match lk o i with | some (.tip z) => cond (Nat.beq z sz) (some (some i, x)) none | _ => none) | .flat (.slice none 0 0) => some (none, []) | _ => none
theorem tip_u32_fit {ren : List (Nat × Option Nat)} {s : St U} {sz cid : Nat} {v : AV U} {q : Option Nat × List Int} (h : tip_u32 s.o sz v = some q) (hr : lk ren cid = some q.1) : FV0 ren v (.tip cid C.u32 q.2) ∧ FO ren s cid (.tip sz) := by
  unfold tip_u32 at h
  split at h
  · split at h
    · rename_i hz
      obtain ⟨hb, h2⟩ := cond_none h
      cases h2
      have hb := Nat.eq_of_beq_eq_true hb
      subst hb
      exact ⟨FV.tip rfl hr, _, hr, fun aid ha => by cases ha; exact hz⟩
    · cases h
  · cases h
    exact ⟨FV.nilTip rfl hr, _, hr, fun aid ha => by cases ha⟩
  · cases h
noncomputable def vec_u32 (o : List (Nat × Ev.Obj U)) : AV U → Option (Option Nat × List Int) | .vs i => (match lk o i with | some (.vec C.u32 x) => some (some i, x) | _ => none) | .flat (.slice none 0 0) => some (none, []) | _ => none
theorem vec_u32_fit {ren : List (Nat × Option Nat)} {s : St U} {cid : Nat} {v : AV U} {q : Option Nat × List Int} (h : vec_u32 s.o v = some q) (hr : lk ren cid = some q.1) : FV0 ren v (.vs cid) ∧ FO ren s cid (.vec C.u32 q.2) := by
  unfold vec_u32 at h
  split at h
  · split at h
    · rename_i hz
      cases h
      exact ⟨FV.vs rfl hr, _, hr, fun aid ha => (by cases ha; exact hz), fun ha => (by cases ha)⟩
    · cases h
  · cases h
    exact ⟨FV.nilVs rfl hr, _, hr, fun aid ha => (by cases ha), fun _ => rfl⟩
  · cases h
noncomputable def row_u64 : AV U → Option (List Int) | .row C.u64 x => some x | .tip _ C.u64 x => some x | .flat (.slice none 0 0) => some [] | _ => none
theorem row_u64_fit {ren : List (Nat × Option Nat)} {v : AV U} {x : List Int} (h : row_u64 v = some x) : FV0 ren v (.row C.u64 x) := by
  unfold row_u64 at h
  split at h
  · cases h; exact FV.row rfl rfl
  · cases h; exact FV.row rfl rfl
  · cases h; exact FV.nilRow rfl
  · cases h
noncomputable def tip_u64 (o : List (Nat × Ev.Obj U)) (sz : Nat) : AV U → Option (Option Nat × List Int) | .tip i C.u64 x => (match lk o i with | some (.tip z) => cond (Nat.beq z sz) (some (some i, x)) none | _ => none) | .flat (.slice none 0 0) => some (none, []) | _ => none
theorem tip_u64_fit {ren : List (Nat × Option Nat)} {s : St U} {sz cid : Nat} {v : AV U} {q : Option Nat × List Int} (h : tip_u64 s.o sz v = some q) (hr : lk ren cid = some q.1) : FV0 ren v (.tip cid C.u64 q.2) ∧ FO ren s cid (.tip sz) := by
  unfold tip_u64 at h
  split at h
  · split at h
    · rename_i hz
      obtain ⟨hb, h2⟩ := cond_none h
      cases h2
      have hb := Nat.eq_of_beq_eq_true hb
      subst hb
      exact ⟨FV.tip rfl hr, _, hr, fun aid ha => by cases ha; exact hz⟩
    · cases h
  · cases h
    exact ⟨FV.nilTip rfl hr, _, hr, fun aid ha => by cases ha⟩
  · cases h
noncomputable def vec_u64 (o : List (Nat × Ev.Obj U)) : AV U → Option (Option Nat × List Int) | .vs i => (match lk o i with | some (.vec C.u64 x) => some (some i, x) | _ => none) | .flat (.slice none 0 0) => some (none, []) | _ => none
theorem vec_u64_fit {ren : List (Nat × Option Nat)} {s : St U} {cid : Nat} {v : AV U} {q : Option Nat × List Int} (h : vec_u64 s.o v = some q) (hr : lk ren cid = some q.1) : FV0 ren v (.vs cid) ∧ FO ren s cid (.vec C.u64 q.2) := by
  unfold vec_u64 at h
  split at h
  · split at h
    · rename_i hz
      cases h
      exact ⟨FV.vs rfl hr, _, hr, fun aid ha => (by cases ha; exact hz), fun ha => (by cases ha)⟩
    · cases h
  · cases h
    exact ⟨FV.nilVs rfl hr, _, hr, fun aid ha => (by cases ha), fun _ => rfl⟩
  · cases h
noncomputable def map_a2_i64_Sapi_Dec_t (o : List (Nat × Ev.Obj U)) : AV U → Option (Option Nat × List ((Int × Int) × Sapi_Dec)) | .mp i => (match lk o i with | some (.map true true true C.a2_i64 C.Sapi_Dec x) => some (some i, x) | _ => none) | _ => none
theorem map_a2_i64_Sapi_Dec_t_fit {ren : List (Nat × Option Nat)} {s : St U} {cid : Nat} {v : AV U} {q : Option Nat × List ((Int × Int) × Sapi_Dec)} (h : map_a2_i64_Sapi_Dec_t s.o v = some q) (hr : lk ren cid = some q.1) : FV0 ren v (.mp cid) ∧ FO ren s cid (.map true true true C.a2_i64 C.Sapi_Dec q.2) := by
  unfold map_a2_i64_Sapi_Dec_t at h
  split at h
  · split at h
    · rename_i hz
      cases h
      exact ⟨FV.mp rfl hr, _, hr, fun aid ha => (by cases ha; exact ⟨_, hz, fun _ => rfl⟩), fun ha => (by cases ha)⟩
    · cases h
  · cases h
noncomputable def map_a2_i64_Sapi_Dec_f (o : List (Nat × Ev.Obj U)) : AV U → Option (Option Nat × List ((Int × Int) × Sapi_Dec)) | .mp i => (match lk o i with | some (.map _ true true C.a2_i64 C.Sapi_Dec x) => some (some i, x) | _ => none) | .flat (.map none) => some (none, []) | _ => none
theorem map_a2_i64_Sapi_Dec_f_fit {ren : List (Nat × Option Nat)} {s : St U} {cid : Nat} {v : AV U} {q : Option Nat × List ((Int × Int) × Sapi_Dec)} (h : map_a2_i64_Sapi_Dec_f s.o v = some q) (hr : lk ren cid = some q.1) : FV0 ren v (.mp cid) ∧ FO ren s cid (.map false true true C.a2_i64 C.Sapi_Dec q.2) := by
  unfold map_a2_i64_Sapi_Dec_f at h
  split at h
  · split at h
    · rename_i hz
      cases h
      exact ⟨FV.mp rfl hr, _, hr, fun aid ha => (by cases ha; exact ⟨_, hz, fun hh => by cases hh⟩), fun ha => (by cases ha)⟩
    · cases h
  · cases h
    exact ⟨FV.nilMp rfl hr, _, hr, fun aid ha => (by cases ha), fun _ => ⟨rfl, rfl⟩⟩
  · cases h
noncomputable def mc : List (Nat × (U.C × U.C)) := [(32, (C.a2_i64, C.Sapi_Dec)), (33, (C.a2_i64, C.Sapi_Dec))]
noncomputable def ec : List (Nat × U.C) := [(22, C.i64), (24, C.Sapi_Line), (51, C.a2_i64), (99, C.Sapi_Entry), (118, C.i64), (190, C.Sapi_Dec)]
theorem mixed : Tryz.prog.follows .mixedOrders = true := by kernel_rfl
noncomputable def sl0 : List (Nat × SDen U) := []
theorem sl0_ok : ∀ p ∈ sl0, SfOk Tryz.prog DD p.1 p.2 ∧ ∀ args w, (callFunc p.1 args).run Tryz.prog w = .ok (.enter p.1 args) w := fun p hp => (List.not_mem_nil hp).elim
noncomputable def io_Sledger_Book_rt (i b : Nat) : Tp U Sledger_Book := tIo i (bLitT i [vInt .i64, vTip DD (b + 2) C.Sapi_Entry 3] cd_Speriod_Table) (fun x => (x.f_scale, x.f_l, x.f_t, ())) (fun h => (⟨h.1, h.2.1, h.2.2.1⟩ : Sledger_Book)) (fun _ => rfl)
noncomputable def n0 : Nat → Bool := fun _ => false
noncomputable def n00 : FuncId → Nat → Bool := fun _ _ => false
noncomputable def nl0 : Nat → List Nat := fun _ => []
theorem allL_no {E : Env U} {nt : Nat} {fn : Func} {c : Code} (h : ∀ k, E.ld k = none) : AllL E nt fn (loopsOf c) := fun _ _ k _ _ h2 => by rw [h k] at h2; cases h2
noncomputable def mkE (fn : Func) (fl : List (Pk Tryz.prog DD)) (jl : List (Nat × Jk U)) (ll : List (Nat × LDen U)) (md : List (Nat × (Nat × U.C))) (dy : TypeId → Bool) (vc : Nat → Bool) (gh : List Nat) (ow : Bool) (io : FuncId → Nat → Bool) (ld : Nat → List Nat) (nl : List (Pk Tryz.prog DD)) : Env U := { P := Tryz.prog, D := DD, fd := lk (fds fl), sf := lk sl0, ld := lk ll, jd := lk (jds jl), mode := lk md, elc := lk ec, mpc := lk mc, rts := fn.resultTypes.toList, dyn := dy, vecs := vc, results := fn.results.toList, gh := gh, own := ow, io := io, lds := ld, fn := lk (fds nl) }
theorem mkE_ok (fn : Func) (fl : List (Pk Tryz.prog DD)) (jl : List (Nat × Jk U)) (ll : List (Nat × LDen U)) (md : List (Nat × (Nat × U.C))) (dy : TypeId → Bool) (vc : Nat → Bool) (gh : List Nat) (ow : Bool) (io : FuncId → Nat → Bool) (ld : Nat → List Nat) (nl : List (Pk Tryz.prog DD)) : EnvOk (mkE fn fl jl ll md dy vc gh ow io ld nl) := envOk lawful (fds fl) sl0 ll (jds jl) _ _ _ _ _ _ _ _ _ _ _ (fds nl) (fds_ok fl) sl0_ok (jds_ok jl) (fds_ok nl)
end
end Go.Proofs.YtbchcjlllddlpaaGreat
