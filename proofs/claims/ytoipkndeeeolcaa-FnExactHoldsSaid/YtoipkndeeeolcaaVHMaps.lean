-- Of the words, what this claim uses: laid by a program of this session.
/- For walks by hand: a map of the words that were seenW, that the call made itself. -/
import Derived.Test.YtoipkndeeeolcaaVMore
import Derived.Maps.OwnOps
import Derived.Maps.Views
import Derived.StringKeys
import Derived.Carry
namespace Go.Proofs.YtoipkndeeeolcaaW.PrintWords
open Go.RowKit
def skey (s : ByteArray) : Lit := .string s.data.toList
def seenMap (l : List ByteArray) : DataW Unit := l.foldl (fun D s => D.put (skey s) (.lit (.int .i64 1))) (.map [])
theorem seenMap_snoc (l : List ByteArray) (s : ByteArray) : seenMap (l ++ [s]) = (seenMap l).put (skey s) (.lit (.int .i64 1)) := by simp [seenMap, List.foldl_append]
def seenW : List ByteArray → ByteArray → Bool
 | [], _ => false
 | a :: r, s => decide (a.data.toList = s.data.toList) || seenW r s
theorem skey_eq {a s : ByteArray} : skey s = skey a ↔ a.data.toList = s.data.toList := by
  unfold skey
  constructor
  · intro h
    injection h with h
    exact h.symm
  · intro h
    rw [h]
theorem seenMap_fold_at (s : ByteArray) (l : List ByteArray) : ∀ D : DataW Unit, Maps.IsMap D → (l.foldl (fun D s => D.put (skey s) (.lit (.int .i64 1))) D).atKey (skey s) (.lit (.int .i64 0)) = if seenW l s = true then .lit (.int .i64 1) else D.atKey (skey s) (.lit (.int .i64 0)) := by
  induction l with
  | nil => intro D _; simp [seenW]
  | cons a r ih =>
    intro D h
    rw [List.foldl_cons, ih _ (h.put _ _)]
    by_cases h1 : seenW r s = true
    · simp [seenW, h1]
    · by_cases h2 : a.data.toList = s.data.toList
      · have h3 := skey_eq.2 h2
        rw [if_neg h1, h3, Maps.atKey_put_same h (by simp [skey, WideAt.IsKeyLit])]
        simp [seenW, h2]
      · rw [if_neg h1, Maps.atKey_put_other (fun e => h2 (skey_eq.1 e))]
        simp [seenW, h2, h1]
theorem seenMap_at (l : List ByteArray) (s : ByteArray) : (seenMap l).atKey (skey s) (.lit (.int .i64 0)) = .lit (.int .i64 (if seenW l s = true then 1 else 0)) := by
  unfold seenMap
  rw [seenMap_fold_at s l _ Maps.isMap_empty]
  split
  · rfl
  · rfl
end Go.Proofs.YtoipkndeeeolcaaW.PrintWords
