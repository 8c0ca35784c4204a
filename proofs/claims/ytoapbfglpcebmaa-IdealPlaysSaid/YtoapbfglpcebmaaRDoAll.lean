/- The contract of mudlarkref09 Do: the other kinds, and all of them. -/
import Derived.Test.YtoapbfglpcebmaaRDoB
import Derived.Test.YtoapbfglpcebmaaRDoC
namespace Go.Proofs.Ytoapbfglpcebmaa
open Go Go.RowKit
set_option linter.unusedSimpArgs false
set_option linter.unusedVariables false

theorem rdo_any (w : World) (T : Nat → Prop) (b : Nat) (x : RSto) (h : IsR w T b x) (m : Int) (o : Opr) (full : Bool) (hlen : x.puts.length ≤ 99990)
    (hbd : ∀ m r, 0 ≤ x.reg m r ∧ x.reg m r < 18446744073709551616) (h63 : o.b < 9223372036854775808) (hn : 0 ≤ x.n ∧ x.n < 1000000) :
    Calls Try.prog 29 #[.pointer (some ⟨b, 0, none⟩), .int .i64 m, o.v, .bool full] w (RPost w T b (x.act m o full)) := by
  unfold RSto.act
  by_cases hf : x.fits m o = true
  case neg => rw [if_neg hf]; exact rdo_bad w T b x h m o full hf
  rw [if_pos hf]
  unfold RSto.fits at hf
  rw [Bool.and_eq_true, decide_eq_true_iff, beq_iff_eq] at hf
  obtain ⟨hm, herr⟩ := hf
  obtain ⟨_, hr⟩ := right_of_err herr
  obtain hk | hk | hk | hk | hk | hk | hk | hk | hk | hk | hk : o.kind = 1 ∨ o.kind = 2 ∨ o.kind = 3 ∨ o.kind = 4 ∨ o.kind = 5 ∨ o.kind = 6 ∨ o.kind = 7 ∨ o.kind = 8 ∨ o.kind = 9 ∨ o.kind = 10 ∨ o.kind = 11 := by have := hr.kind; omega
  · exact rdo_1 w T b x h m o full hlen hbd hm herr hk h63
  · exact rdo_2 w T b x h m o full hlen hbd hm herr hk h63
  · cases full
    · exact rdo_3 w T b x h m o false hlen hbd hm herr hk h63 rfl hn
    · exact rdo_3f w T b x h m o true hlen hbd hm herr hk h63 rfl
  · by_cases hb : numb (x.reg m o.b) < 0
    · exact rdo_4n w T b x h m o full hlen hbd hm herr hk h63 hb
    · exact rdo_4s w T b x h m o full hlen hbd hm herr hk h63 hb
  · by_cases hb : numb (x.reg m o.b) < 0
    · exact rdo_5n w T b x h m o full hlen hbd hm herr hk h63 hb
    · exact rdo_5s w T b x h m o full hlen hbd hm herr hk h63 hb
  · by_cases hb : numb (x.reg m o.a) < 0
    · exact rdo_6n w T b x h m o full hlen hbd hm herr hk h63 hb
    · exact rdo_6s w T b x h m o full hlen hbd hm herr hk h63 hb
  · by_cases hb : numb (x.reg m o.a) < 0
    · exact rdo_7n w T b x h m o full hlen hbd hm herr hk h63 hb
    · exact rdo_7s w T b x h m o full hlen hbd hm herr hk h63 hb
  · exact rdo_8 w T b x h m o full hlen hbd hm herr hk h63
  · exact rdo_9 w T b x h m o full hlen hbd hm herr hk h63
  · exact rdo_10 w T b x h m o full hlen hbd hm herr hk h63
  · exact rdo_11 w T b x h m o full hlen hbd hm herr hk h63
end Go.Proofs.Ytoapbfglpcebmaa
