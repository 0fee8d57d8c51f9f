/- What one who is clear sees of a gate. No conditions but size. -/
import Derived.Test.YtlaogfkgkpgofaaGc
namespace Go.Proofs.Ytlaogfkgkpgofaa.Pure
set_option linter.unusedVariables false
set_option linter.unusedSimpArgs false
open Go Go.Ev Go.Lm Go.Pu Go.Dg
def blB (a b : Sapi_Label) : Bool := ((bits .andNot .u64 a.f_Set b.f_Set) == 0) && decide (a.f_Level ≤ b.f_Level)
theorem Below_eq (k : Nat) (a b : Sapi_Label) : label_Below.f k a b = some (blB a b) := by
  unfold label_Below.f blB
  cases ((bits .andNot .u64 a.f_Set b.f_Set) == 0) <;> rfl
theorem Log_eq (k : Nat) {l : List Sgate_Out} {at_ : List (Sgate_Key × Int)} (hl : l.length ≤ 1000000) : gate_Gate_Log.f k ⟨l, at_⟩ = some (l, ⟨l, at_⟩) := by
  unfold gate_Gate_Log.f slices_Clone_gate_Out.f slices_Clip_gate_Out.f
  rw [okLen_t (by simp only [List.length_nil, Nat.zero_add]; omega), cond_true, List.nil_append, Option.bind_some, decide_eq_true rfl, Bool.true_and, inS_t (by omega) (by omega) (by omega), cond_true, Option.bind_some, Int.toNat_natCast, List.take_length]
theorem filter_take {α : Type} (p : α → Bool) (d : α) {l : List α} {i : Nat} (h : i < l.length) : (l.take (i + 1)).filter p = (l.take i).filter p ++ (if p (l.getD i d) then [l.getD i d] else []) := by
  rw [List.take_add_one, List.filter_append, List.getD_eq_getElem?_getD, List.getElem?_eq_getElem h, Option.getD_some]
  congr 1
  cases hp : p l[i] <;> simp [hp]
theorem Seen_eq {k : Nat} (hk : 2000 < k) {l : List Sgate_Out} {at_ : List (Sgate_Key × Int)} (hl : l.length ≤ 1000) (c : Sapi_Label) : gate_Gate_Seen.f k ⟨l, at_⟩ c = some (l.filter (fun x => blB x.f_To c), ⟨l, at_⟩) := by
  unfold gate_Gate_Seen.f slices_Clip_gate_Out.f
  have hlog : gate_Gate_Log.f k ⟨l, at_⟩ = some (l, ⟨l, at_⟩) := Log_eq k (by omega)
  dsimp only
  rw [hlog, Option.bind_some]
  have h := iter_seq (once := gate_Gate_Seen.l3.once k) (fun i => ((l.take i).filter (fun x => blB x.f_To c), l, (l.length : Int), (i : Int), c.f_Set, c.f_Level, l, at_)) l.length (by
    intro i hi
    have hf := List.length_filter_le (fun x : Sgate_Out => blB x.f_To c) (l.take i)
    have ht : (l.take i).length ≤ i := by rw [List.length_take]; omega
    unfold gate_Gate_Seen.l3.once
    dsimp only
    have hb : label_Below.f k ⟨(l.getD i Sgate_Out.zero).f_To.f_Set, (l.getD i Sgate_Out.zero).f_To.f_Level⟩ ⟨c.f_Set, c.f_Level⟩ = some (blB (l.getD i Sgate_Out.zero).f_To c) := Below_eq k _ _
    rw [ct (by omega), inb_t (by omega) (by omega), cond_true, Int.toNat_natCast, hb, Option.bind_some, filter_take _ Sgate_Out.zero hi, okLen_t (by simp only [List.length_cons, List.length_nil]; omega), wrapi (by omega)]
    cases blB (l.getD i Sgate_Out.zero).f_To c
    · rw [cond_false, if_neg (by decide), List.append_nil]
      rfl
    · rw [cond_true, cond_true, if_pos rfl]
      rfl) (l.filter (fun x => blB x.f_To c), l, at_) (by
    unfold gate_Gate_Seen.l3.once
    dsimp only
    rw [cf (by omega), List.take_length]) k 0 (by omega) (by omega)
  have h' : iter (gate_Gate_Seen.l3.once k) k ([], l, (l.length : Int), 0, c.f_Set, c.f_Level, l, at_) = some (l.filter (fun x => blB x.f_To c), l, at_) := h
  dsimp only
  rw [h', Option.bind_some]
  dsimp only
  rw [decide_eq_true rfl, Bool.true_and, inS_t (by omega) (by omega) (by omega), cond_true, Option.bind_some, Int.toNat_natCast, List.take_length]
end Go.Proofs.Ytlaogfkgkpgofaa.Pure
