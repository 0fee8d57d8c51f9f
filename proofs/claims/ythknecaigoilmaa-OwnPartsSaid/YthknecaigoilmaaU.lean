import Derived.Test.YthknecaigoilmaaEvZ
import Derived.Test.YthknecaigoilmaaProg
/-! This seat's types, told as plain data. Written by gen.py. -/
namespace Go.Proofs.Ythknecaigoilmaa
open Go Go.Ev
noncomputable section
set_option linter.unusedVariables false
structure Sapi_Ent where
  f_Level : Int
  f_Scale : Int
  f_Parent : Int
  f_Share : Int
noncomputable def Sapi_Ent.zero : Sapi_Ent := ⟨0, 0, 0, 0⟩
structure Sapi_Dec where
  f_Neg : Bool
  f_C : (Int × Int)
  f_Scale : Int
noncomputable def Sapi_Dec.zero : Sapi_Dec := ⟨false, (0, 0), 0⟩
inductive C where
  | u64
  | u32
  | i64
  | Sapi_Ent
  | Sapi_Dec
abbrev El : C → Type
  | .u64 => Int
  | .u32 => Int
  | .i64 => Int
  | .Sapi_Ent => Sapi_Ent
  | .Sapi_Dec => Sapi_Dec
abbrev U : Univ := ⟨C, El⟩
noncomputable def deqC : DecidableEq U.C := fun a b => by cases a <;> cases b <;> first | exact isTrue rfl | exact isFalse (fun h => by cases h)
noncomputable def cd_Sapi_Ent : Cd U Sapi_Ent := Cd.iso (Cd.pair (Cd.int .i64) (Cd.pair (Cd.int .i64) (Cd.pair (Cd.int .i64) (Cd.pair (Cd.int .i64) Cd.unit)))) (fun x => ⟨x.1, x.2.1, x.2.2.1, x.2.2.2.1⟩) (fun x => (x.f_Level, x.f_Scale, x.f_Parent, x.f_Share, ())) (fun _ => rfl)
noncomputable def cd_Sapi_Dec : Cd U Sapi_Dec := Cd.iso (Cd.pair Cd.bool (Cd.pair (Cd.pair (Cd.int .u64) (Cd.int .u64)) (Cd.pair (Cd.int .i64) Cd.unit))) (fun x => ⟨x.1, x.2.1, x.2.2.1⟩) (fun x => (x.f_Neg, x.f_C, x.f_Scale, ())) (fun _ => rfl)
noncomputable def enc_u64 (x : Int) : List (AV U) := [.flat (.int .u64 x)]
noncomputable def dec_u64 : List (AV U) → Option Int | [.flat (.int .u64 x1)] => some x1 | _ => none
theorem dec_enc_u64 (cs : List (AV U)) (x : Int) (h : dec_u64 cs = some x) : cs = enc_u64 x := by
  unfold dec_u64 at h
  split at h
  · cases h; rfl
  · cases h
noncomputable def enc_u32 (x : Int) : List (AV U) := [.flat (.int .u32 x)]
noncomputable def dec_u32 : List (AV U) → Option Int | [.flat (.int .u32 x1)] => some x1 | _ => none
theorem dec_enc_u32 (cs : List (AV U)) (x : Int) (h : dec_u32 cs = some x) : cs = enc_u32 x := by
  unfold dec_u32 at h
  split at h
  · cases h; rfl
  · cases h
noncomputable def enc_i64 (x : Int) : List (AV U) := [.flat (.int .i64 x)]
noncomputable def dec_i64 : List (AV U) → Option Int | [.flat (.int .i64 x1)] => some x1 | _ => none
theorem dec_enc_i64 (cs : List (AV U)) (x : Int) (h : dec_i64 cs = some x) : cs = enc_i64 x := by
  unfold dec_i64 at h
  split at h
  · cases h; rfl
  · cases h
noncomputable def enc_Sapi_Ent (x : Sapi_Ent) : List (AV U) := [.flat (.int .i64 x.f_Level), .flat (.int .i64 x.f_Scale), .flat (.int .i64 x.f_Parent), .flat (.int .i64 x.f_Share)]
noncomputable def dec_Sapi_Ent : List (AV U) → Option Sapi_Ent | [.flat (.int .i64 x1), .flat (.int .i64 x2), .flat (.int .i64 x3), .flat (.int .i64 x4)] => some (⟨x1, x2, x3, x4⟩ : Sapi_Ent) | _ => none
theorem dec_enc_Sapi_Ent (cs : List (AV U)) (x : Sapi_Ent) (h : dec_Sapi_Ent cs = some x) : cs = enc_Sapi_Ent x := by
  unfold dec_Sapi_Ent at h
  split at h
  · cases h; rfl
  · cases h
noncomputable def enc_Sapi_Dec (x : Sapi_Dec) : List (AV U) := [.flat (.bool x.f_Neg), .flat (.int .u64 x.f_C.1), .flat (.int .u64 x.f_C.2), .flat (.int .i64 x.f_Scale)]
noncomputable def dec_Sapi_Dec : List (AV U) → Option Sapi_Dec | [.flat (.bool x1), .flat (.int .u64 x2), .flat (.int .u64 x3), .flat (.int .i64 x4)] => some (⟨x1, (x2, x3), x4⟩ : Sapi_Dec) | _ => none
theorem dec_enc_Sapi_Dec (cs : List (AV U)) (x : Sapi_Dec) (h : dec_Sapi_Dec cs = some x) : cs = enc_Sapi_Dec x := by
  unfold dec_Sapi_Dec at h
  split at h
  · cases h; rfl
  · cases h
noncomputable def DD : Codec U where
  size := fun c => match c with | .u64 => 1 | .u32 => 1 | .i64 => 1 | .Sapi_Ent => 4 | .Sapi_Dec => 4
  enc := fun c => match c with | .u64 => enc_u64 | .u32 => enc_u32 | .i64 => enc_i64 | .Sapi_Ent => enc_Sapi_Ent | .Sapi_Dec => enc_Sapi_Dec
  dec := fun c => match c with | .u64 => dec_u64 | .u32 => dec_u32 | .i64 => dec_i64 | .Sapi_Ent => dec_Sapi_Ent | .Sapi_Dec => dec_Sapi_Dec
  dflt := fun c => match c with | .u64 => (0 : Int) | .u32 => (0 : Int) | .i64 => (0 : Int) | .Sapi_Ent => (Sapi_Ent.zero : Sapi_Ent) | .Sapi_Dec => (Sapi_Dec.zero : Sapi_Dec)
  deq := deqC
theorem lawful : Lawful DD where
  enc_len := fun c x => by cases c <;> rfl
  dec_enc := fun c cs x h => by
    cases c with
    | u64 => exact dec_enc_u64 cs x h
    | u32 => exact dec_enc_u32 cs x h
    | i64 => exact dec_enc_i64 cs x h
    | Sapi_Ent => exact dec_enc_Sapi_Ent cs x h
    | Sapi_Dec => exact dec_enc_Sapi_Dec cs x h
  enc_ok := fun c x v hv => List.all_eq_true.mp (show (DD.enc c x).all okCell = true by cases c <;> rfl) v hv
  enc_c0 := fun c x v hv => List.all_eq_true.mp (show (DD.enc c x).all c0 = true by cases c <;> rfl) v hv
noncomputable def row_u64 : AV U → Option (List Int) | .row C.u64 x => some x | .tip _ C.u64 x => some x | .flat (.slice none 0 0) => some [] | _ => none
theorem row_u64_fit {ren : List (Nat × Option Nat)} {v : AV U} {x : List Int} (h : row_u64 v = some x) : FV ren v (.row C.u64 x) := by
  unfold row_u64 at h
  split at h
  · cases h; exact FV.row rfl (fun _ hh => by cases hh)
  · cases h; exact FV.row rfl (fun _ hh => by cases hh)
  · cases h; exact FV.nilRow rfl
  · cases h
noncomputable def tip_u64 (o : List (Nat × Ev.Obj U)) (sz : Nat) : AV U → Option (Option Nat × List Int) | .tip i C.u64 x => (match lk o i with | some (.tip z) => cond (Nat.beq z sz) (some (some i, x)) none | _ => none) | .flat (.slice none 0 0) => some (none, []) | _ => none
theorem tip_u64_fit {ren : List (Nat × Option Nat)} {s : St U} {sz cid : Nat} {v : AV U} {q : Option Nat × List Int} (h : tip_u64 s.o sz v = some q) (hr : lk ren cid = some q.1) : FV ren v (.tip cid C.u64 q.2) ∧ FO ren s cid (.tip sz) := by
  unfold tip_u64 at h
  split at h
  · split at h
    · rename_i hz
      obtain ⟨hb, h2⟩ := cond_none h
      cases h2
      have hb := Nat.eq_of_beq_eq_true hb
      subst hb
      exact ⟨FV.tip rfl hr, _, hr, fun aid ha => by cases ha; exact hz⟩
    · cases h
  · cases h
    exact ⟨FV.nilTip rfl hr, _, hr, fun aid ha => by cases ha⟩
  · cases h
noncomputable def vec_u64 (o : List (Nat × Ev.Obj U)) : AV U → Option (Option Nat × List Int) | .vs i => (match lk o i with | some (.vec C.u64 x) => some (some i, x) | _ => none) | .flat (.slice none 0 0) => some (none, []) | _ => none
theorem vec_u64_fit {ren : List (Nat × Option Nat)} {s : St U} {cid : Nat} {v : AV U} {q : Option Nat × List Int} (h : vec_u64 s.o v = some q) (hr : lk ren cid = some q.1) : FV ren v (.vs cid) ∧ FO ren s cid (.vec C.u64 q.2) := by
  unfold vec_u64 at h
  split at h
  · split at h
    · rename_i hz
      cases h
      exact ⟨FV.vs rfl hr, _, hr, fun aid ha => (by cases ha; exact hz), fun ha => (by cases ha)⟩
    · cases h
  · cases h
    exact ⟨FV.nilVs rfl hr, _, hr, fun aid ha => (by cases ha), fun _ => rfl⟩
  · cases h
noncomputable def row_u32 : AV U → Option (List Int) | .row C.u32 x => some x | .tip _ C.u32 x => some x | .flat (.slice none 0 0) => some [] | _ => none
theorem row_u32_fit {ren : List (Nat × Option Nat)} {v : AV U} {x : List Int} (h : row_u32 v = some x) : FV ren v (.row C.u32 x) := by
  unfold row_u32 at h
  split at h
  · cases h; exact FV.row rfl (fun _ hh => by cases hh)
  · cases h; exact FV.row rfl (fun _ hh => by cases hh)
  · cases h; exact FV.nilRow rfl
  · cases h
noncomputable def tip_u32 (o : List (Nat × Ev.Obj U)) (sz : Nat) : AV U → Option (Option Nat × List Int) | .tip i C.u32 x => (match lk o i with | some (.tip z) => cond (Nat.beq z sz) (some (some i, x)) none | _ => none) | .flat (.slice none 0 0) => some (none, []) | _ => none
theorem tip_u32_fit {ren : List (Nat × Option Nat)} {s : St U} {sz cid : Nat} {v : AV U} {q : Option Nat × List Int} (h : tip_u32 s.o sz v = some q) (hr : lk ren cid = some q.1) : FV ren v (.tip cid C.u32 q.2) ∧ FO ren s cid (.tip sz) := by
  unfold tip_u32 at h
  split at h
  · split at h
    · rename_i hz
      obtain ⟨hb, h2⟩ := cond_none h
      cases h2
      have hb := Nat.eq_of_beq_eq_true hb
      subst hb
      exact ⟨FV.tip rfl hr, _, hr, fun aid ha => by cases ha; exact hz⟩
    · cases h
  · cases h
    exact ⟨FV.nilTip rfl hr, _, hr, fun aid ha => by cases ha⟩
  · cases h
noncomputable def vec_u32 (o : List (Nat × Ev.Obj U)) : AV U → Option (Option Nat × List Int) | .vs i => (match lk o i with | some (.vec C.u32 x) => some (some i, x) | _ => none) | .flat (.slice none 0 0) => some (none, []) | _ => none
theorem vec_u32_fit {ren : List (Nat × Option Nat)} {s : St U} {cid : Nat} {v : AV U} {q : Option Nat × List Int} (h : vec_u32 s.o v = some q) (hr : lk ren cid = some q.1) : FV ren v (.vs cid) ∧ FO ren s cid (.vec C.u32 q.2) := by
  unfold vec_u32 at h
  split at h
  · split at h
    · rename_i hz
      cases h
      exact ⟨FV.vs rfl hr, _, hr, fun aid ha => (by cases ha; exact hz), fun ha => (by cases ha)⟩
    · cases h
  · cases h
    exact ⟨FV.nilVs rfl hr, _, hr, fun aid ha => (by cases ha), fun _ => rfl⟩
  · cases h
noncomputable def row_i64 : AV U → Option (List Int) | .row C.i64 x => some x | .tip _ C.i64 x => some x | .flat (.slice none 0 0) => some [] | _ => none
theorem row_i64_fit {ren : List (Nat × Option Nat)} {v : AV U} {x : List Int} (h : row_i64 v = some x) : FV ren v (.row C.i64 x) := by
  unfold row_i64 at h
  split at h
  · cases h; exact FV.row rfl (fun _ hh => by cases hh)
  · cases h; exact FV.row rfl (fun _ hh => by cases hh)
  · cases h; exact FV.nilRow rfl
  · cases h
noncomputable def tip_i64 (o : List (Nat × Ev.Obj U)) (sz : Nat) : AV U → Option (Option Nat × List Int) | .tip i C.i64 x => (match lk o i with | some (.tip z) => cond (Nat.beq z sz) (some (some i, x)) none | _ => none) | .flat (.slice none 0 0) => some (none, []) | _ => none
theorem tip_i64_fit {ren : List (Nat × Option Nat)} {s : St U} {sz cid : Nat} {v : AV U} {q : Option Nat × List Int} (h : tip_i64 s.o sz v = some q) (hr : lk ren cid = some q.1) : FV ren v (.tip cid C.i64 q.2) ∧ FO ren s cid (.tip sz) := by
  unfold tip_i64 at h
  split at h
  · split at h
    · rename_i hz
      obtain ⟨hb, h2⟩ := cond_none h
      cases h2
      have hb := Nat.eq_of_beq_eq_true hb
      subst hb
      exact ⟨FV.tip rfl hr, _, hr, fun aid ha => by cases ha; exact hz⟩
    · cases h
  · cases h
    exact ⟨FV.nilTip rfl hr, _, hr, fun aid ha => by cases ha⟩
  · cases h
noncomputable def vec_i64 (o : List (Nat × Ev.Obj U)) : AV U → Option (Option Nat × List Int) | .vs i => (match lk o i with | some (.vec C.i64 x) => some (some i, x) | _ => none) | .flat (.slice none 0 0) => some (none, []) | _ => none
theorem vec_i64_fit {ren : List (Nat × Option Nat)} {s : St U} {cid : Nat} {v : AV U} {q : Option Nat × List Int} (h : vec_i64 s.o v = some q) (hr : lk ren cid = some q.1) : FV ren v (.vs cid) ∧ FO ren s cid (.vec C.i64 q.2) := by
  unfold vec_i64 at h
  split at h
  · split at h
    · rename_i hz
      cases h
      exact ⟨FV.vs rfl hr, _, hr, fun aid ha => (by cases ha; exact hz), fun ha => (by cases ha)⟩
    · cases h
  · cases h
    exact ⟨FV.nilVs rfl hr, _, hr, fun aid ha => (by cases ha), fun _ => rfl⟩
  · cases h
noncomputable def row_Sapi_Ent : AV U → Option (List Sapi_Ent) | .row C.Sapi_Ent x => some x | .tip _ C.Sapi_Ent x => some x | .flat (.slice none 0 0) => some [] | _ => none
theorem row_Sapi_Ent_fit {ren : List (Nat × Option Nat)} {v : AV U} {x : List Sapi_Ent} (h : row_Sapi_Ent v = some x) : FV ren v (.row C.Sapi_Ent x) := by
  unfold row_Sapi_Ent at h
  split at h
  · cases h; exact FV.row rfl (fun _ hh => by cases hh)
  · cases h; exact FV.row rfl (fun _ hh => by cases hh)
  · cases h; exact FV.nilRow rfl
  · cases h
noncomputable def tip_Sapi_Ent (o : List (Nat × Ev.Obj U)) (sz : Nat) : AV U → Option (Option Nat × List Sapi_Ent) | .tip i C.Sapi_Ent x => (match lk o i with | some (.tip z) => cond (Nat.beq z sz) (some (some i, x)) none | _ => none) | .flat (.slice none 0 0) => some (none, []) | _ => none
theorem tip_Sapi_Ent_fit {ren : List (Nat × Option Nat)} {s : St U} {sz cid : Nat} {v : AV U} {q : Option Nat × List Sapi_Ent} (h : tip_Sapi_Ent s.o sz v = some q) (hr : lk ren cid = some q.1) : FV ren v (.tip cid C.Sapi_Ent q.2) ∧ FO ren s cid (.tip sz) := by
  unfold tip_Sapi_Ent at h
  split at h
  · split at h
    · rename_i hz
      obtain ⟨hb, h2⟩ := cond_none h
      cases h2
      have hb := Nat.eq_of_beq_eq_true hb
      subst hb
      exact ⟨FV.tip rfl hr, _, hr, fun aid ha => by cases ha; exact hz⟩
    · cases h
  · cases h
    exact ⟨FV.nilTip rfl hr, _, hr, fun aid ha => by cases ha⟩
  · cases h
noncomputable def vec_Sapi_Ent (o : List (Nat × Ev.Obj U)) : AV U → Option (Option Nat × List Sapi_Ent) | .vs i => (match lk o i with | some (.vec C.Sapi_Ent x) => some (some i, x) | _ => none) | .flat (.slice none 0 0) => some (none, []) | _ => none
theorem vec_Sapi_Ent_fit {ren : List (Nat × Option Nat)} {s : St U} {cid : Nat} {v : AV U} {q : Option Nat × List Sapi_Ent} (h : vec_Sapi_Ent s.o v = some q) (hr : lk ren cid = some q.1) : FV ren v (.vs cid) ∧ FO ren s cid (.vec C.Sapi_Ent q.2) := by
  unfold vec_Sapi_Ent at h
  split at h
  · split at h
    · rename_i hz
      cases h
      exact ⟨FV.vs rfl hr, _, hr, fun aid ha => (by cases ha; exact hz), fun ha => (by cases ha)⟩
    · cases h
  · cases h
    exact ⟨FV.nilVs rfl hr, _, hr, fun aid ha => (by cases ha), fun _ => rfl⟩
  · cases h
noncomputable def row_Sapi_Dec : AV U → Option (List Sapi_Dec) | .row C.Sapi_Dec x => some x | .tip _ C.Sapi_Dec x => some x | .flat (.slice none 0 0) => some [] | _ => none
theorem row_Sapi_Dec_fit {ren : List (Nat × Option Nat)} {v : AV U} {x : List Sapi_Dec} (h : row_Sapi_Dec v = some x) : FV ren v (.row C.Sapi_Dec x) := by
  unfold row_Sapi_Dec at h
  split at h
  · cases h; exact FV.row rfl (fun _ hh => by cases hh)
  · cases h; exact FV.row rfl (fun _ hh => by cases hh)
  · cases h; exact FV.nilRow rfl
  · cases h
noncomputable def tip_Sapi_Dec (o : List (Nat × Ev.Obj U)) (sz : Nat) : AV U → Option (Option Nat × List Sapi_Dec) | .tip i C.Sapi_Dec x => (match lk o i with | some (.tip z) => cond (Nat.beq z sz) (some (some i, x)) none | _ => none) | .flat (.slice none 0 0) => some (none, []) | _ => none
theorem tip_Sapi_Dec_fit {ren : List (Nat × Option Nat)} {s : St U} {sz cid : Nat} {v : AV U} {q : Option Nat × List Sapi_Dec} (h : tip_Sapi_Dec s.o sz v = some q) (hr : lk ren cid = some q.1) : FV ren v (.tip cid C.Sapi_Dec q.2) ∧ FO ren s cid (.tip sz) := by
  unfold tip_Sapi_Dec at h
  split at h
  · split at h
    · rename_i hz
      obtain ⟨hb, h2⟩ := cond_none h
      cases h2
      have hb := Nat.eq_of_beq_eq_true hb
      subst hb
      exact ⟨FV.tip rfl hr, _, hr, fun aid ha => by cases ha; exact hz⟩
    · cases h
  · cases h
    exact ⟨FV.nilTip rfl hr, _, hr, fun aid ha => by cases ha⟩
  · cases h
noncomputable def vec_Sapi_Dec (o : List (Nat × Ev.Obj U)) : AV U → Option (Option Nat × List Sapi_Dec) | .vs i => (match lk o i with | some (.vec C.Sapi_Dec x) => some (some i, x) | _ => none) | .flat (.slice none 0 0) => some (none, []) | _ => none
theorem vec_Sapi_Dec_fit {ren : List (Nat × Option Nat)} {s : St U} {cid : Nat} {v : AV U} {q : Option Nat × List Sapi_Dec} (h : vec_Sapi_Dec s.o v = some q) (hr : lk ren cid = some q.1) : FV ren v (.vs cid) ∧ FO ren s cid (.vec C.Sapi_Dec q.2) := by
  unfold vec_Sapi_Dec at h
  split at h
  · split at h
    · rename_i hz
      cases h
      exact ⟨FV.vs rfl hr, _, hr, fun aid ha => (by cases ha; exact hz), fun ha => (by cases ha)⟩
    · cases h
  · cases h
    exact ⟨FV.nilVs rfl hr, _, hr, fun aid ha => (by cases ha), fun _ => rfl⟩
  · cases h
noncomputable def ec : List (Nat × U.C) := [(43, C.i64), (44, C.i64), (55, C.Sapi_Ent), (56, C.u64), (143, C.Sapi_Dec)]
theorem mixed : Try.prog.follows .mixedOrders = true := by kernel_rfl
end
end Go.Proofs.Ythknecaigoilmaa
