/- What is proved: two machines go the same steps from some of their joint states, and tell the same there. Conditions: none. -/
import Derived.Test.YtmmpnjcmaodkcaaTya
namespace Go.Proofs.Ytmmpnjcmaodkcaa.Ef
set_option maxRecDepth 100000
set_option linter.unusedVariables false
theorem z0_0 : BZ0 0 j0_0 = true := by kernel_rfl
theorem h0_0 : BH0 j0_0 = true := by kernel_rfl
theorem r0_0 : BR0 j0_0 = true := by kernel_rfl
theorem z0_1 : BZ0 1 j0_1 = true := by kernel_rfl
theorem h0_1 : BH0 j0_1 = true := by kernel_rfl
theorem r0_1 : BR0 j0_1 = true := by kernel_rfl
theorem z0_2 : BZ0 2 j0_2 = true := by kernel_rfl
theorem h0_2 : BH0 j0_2 = true := by kernel_rfl
theorem r0_2 : BR0 j0_2 = true := by kernel_rfl
theorem z0_3 : BZ0 3 j0_3 = true := by kernel_rfl
theorem h0_3 : BH0 j0_3 = true := by kernel_rfl
theorem r0_3 : BR0 j0_3 = true := by kernel_rfl
theorem z0_4 : BZ0 4 j0_4 = true := by kernel_rfl
theorem h0_4 : BH0 j0_4 = true := by kernel_rfl
theorem r0_4 : BR0 j0_4 = true := by kernel_rfl
theorem z0_5 : BZ0 5 j0_5 = true := by kernel_rfl
theorem h0_5 : BH0 j0_5 = true := by kernel_rfl
theorem r0_5 : BR0 j0_5 = true := by kernel_rfl
theorem z0_6 : BZ0 6 j0_6 = true := by kernel_rfl
theorem h0_6 : BH0 j0_6 = true := by kernel_rfl
theorem r0_6 : BR0 j0_6 = true := by kernel_rfl
theorem z0_7 : BZ0 7 j0_7 = true := by kernel_rfl
theorem h0_7 : BH0 j0_7 = true := by kernel_rfl
theorem r0_7 : BR0 j0_7 = true := by kernel_rfl
theorem z0_8 : BZ0 8 j0_8 = true := by kernel_rfl
theorem h0_8 : BH0 j0_8 = true := by kernel_rfl
theorem r0_8 : BR0 j0_8 = true := by kernel_rfl
theorem z0_9 : BZ0 9 j0_9 = true := by kernel_rfl
theorem h0_9 : BH0 j0_9 = true := by kernel_rfl
theorem r0_9 : BR0 j0_9 = true := by kernel_rfl
theorem z0_10 : BZ0 10 j0_10 = true := by kernel_rfl
theorem h0_10 : BH0 j0_10 = true := by kernel_rfl
theorem r0_10 : BR0 j0_10 = true := by kernel_rfl
theorem z0_11 : BZ0 11 j0_11 = true := by kernel_rfl
theorem h0_11 : BH0 j0_11 = true := by kernel_rfl
theorem r0_11 : BR0 j0_11 = true := by kernel_rfl
theorem z0_12 : BZ0 12 j0_12 = true := by kernel_rfl
theorem h0_12 : BH0 j0_12 = true := by kernel_rfl
theorem r0_12 : BR0 j0_12 = true := by kernel_rfl
theorem z0_13 : BZ0 13 j0_13 = true := by kernel_rfl
theorem h0_13 : BH0 j0_13 = true := by kernel_rfl
theorem r0_13 : BR0 j0_13 = true := by kernel_rfl
theorem z0_14 : BZ0 14 j0_14 = true := by kernel_rfl
theorem h0_14 : BH0 j0_14 = true := by kernel_rfl
theorem r0_14 : BR0 j0_14 = true := by kernel_rfl
theorem z0_15 : BZ0 15 j0_15 = true := by kernel_rfl
theorem h0_15 : BH0 j0_15 = true := by kernel_rfl
theorem r0_15 : BR0 j0_15 = true := by kernel_rfl
theorem z0_16 : BZ0 16 j0_16 = true := by kernel_rfl
theorem h0_16 : BH0 j0_16 = true := by kernel_rfl
theorem r0_16 : BR0 j0_16 = true := by kernel_rfl
theorem z0_17 : BZ0 17 j0_17 = true := by kernel_rfl
theorem h0_17 : BH0 j0_17 = true := by kernel_rfl
theorem r0_17 : BR0 j0_17 = true := by kernel_rfl
theorem z0_18 : BZ0 18 j0_18 = true := by kernel_rfl
theorem h0_18 : BH0 j0_18 = true := by kernel_rfl
theorem r0_18 : BR0 j0_18 = true := by kernel_rfl
theorem z0_19 : BZ0 19 j0_19 = true := by kernel_rfl
theorem h0_19 : BH0 j0_19 = true := by kernel_rfl
theorem r0_19 : BR0 j0_19 = true := by kernel_rfl
theorem z0_20 : BZ0 20 j0_20 = true := by kernel_rfl
theorem h0_20 : BH0 j0_20 = true := by kernel_rfl
theorem r0_20 : BR0 j0_20 = true := by kernel_rfl
theorem z0_21 : BZ0 21 j0_21 = true := by kernel_rfl
theorem h0_21 : BH0 j0_21 = true := by kernel_rfl
theorem r0_21 : BR0 j0_21 = true := by kernel_rfl
theorem z0_22 : BZ0 22 j0_22 = true := by kernel_rfl
theorem h0_22 : BH0 j0_22 = true := by kernel_rfl
theorem r0_22 : BR0 j0_22 = true := by kernel_rfl
theorem z0_23 : BZ0 23 j0_23 = true := by kernel_rfl
theorem h0_23 : BH0 j0_23 = true := by kernel_rfl
theorem r0_23 : BR0 j0_23 = true := by kernel_rfl
theorem z0_24 : BZ0 24 j0_24 = true := by kernel_rfl
theorem h0_24 : BH0 j0_24 = true := by kernel_rfl
theorem r0_24 : BR0 j0_24 = true := by kernel_rfl
theorem z0_25 : BZ0 25 j0_25 = true := by kernel_rfl
theorem h0_25 : BH0 j0_25 = true := by kernel_rfl
theorem r0_25 : BR0 j0_25 = true := by kernel_rfl
theorem z0_26 : BZ0 26 j0_26 = true := by kernel_rfl
theorem h0_26 : BH0 j0_26 = true := by kernel_rfl
theorem r0_26 : BR0 j0_26 = true := by kernel_rfl
theorem z0_27 : BZ0 27 j0_27 = true := by kernel_rfl
theorem h0_27 : BH0 j0_27 = true := by kernel_rfl
theorem r0_27 : BR0 j0_27 = true := by kernel_rfl
theorem z0_28 : BZ0 28 j0_28 = true := by kernel_rfl
theorem h0_28 : BH0 j0_28 = true := by kernel_rfl
theorem r0_28 : BR0 j0_28 = true := by kernel_rfl
theorem z0_29 : BZ0 29 j0_29 = true := by kernel_rfl
theorem h0_29 : BH0 j0_29 = true := by kernel_rfl
theorem r0_29 : BR0 j0_29 = true := by kernel_rfl
theorem z0_30 : BZ0 30 j0_30 = true := by kernel_rfl
theorem h0_30 : BH0 j0_30 = true := by kernel_rfl
theorem r0_30 : BR0 j0_30 = true := by kernel_rfl
theorem z0_31 : BZ0 31 j0_31 = true := by kernel_rfl
theorem h0_31 : BH0 j0_31 = true := by kernel_rfl
theorem r0_31 : BR0 j0_31 = true := by kernel_rfl
theorem z0_32 : BZ0 32 j0_32 = true := by kernel_rfl
theorem h0_32 : BH0 j0_32 = true := by kernel_rfl
theorem r0_32 : BR0 j0_32 = true := by kernel_rfl
theorem z0_33 : BZ0 33 j0_33 = true := by kernel_rfl
theorem h0_33 : BH0 j0_33 = true := by kernel_rfl
theorem r0_33 : BR0 j0_33 = true := by kernel_rfl
theorem z0_34 : BZ0 34 j0_34 = true := by kernel_rfl
theorem h0_34 : BH0 j0_34 = true := by kernel_rfl
theorem r0_34 : BR0 j0_34 = true := by kernel_rfl
theorem z0_35 : BZ0 35 j0_35 = true := by kernel_rfl
theorem h0_35 : BH0 j0_35 = true := by kernel_rfl
theorem r0_35 : BR0 j0_35 = true := by kernel_rfl
theorem z0_36 : BZ0 36 j0_36 = true := by kernel_rfl
theorem h0_36 : BH0 j0_36 = true := by kernel_rfl
theorem r0_36 : BR0 j0_36 = true := by kernel_rfl
theorem z0_37 : BZ0 37 j0_37 = true := by kernel_rfl
theorem h0_37 : BH0 j0_37 = true := by kernel_rfl
theorem r0_37 : BR0 j0_37 = true := by kernel_rfl
theorem z0_38 : BZ0 38 j0_38 = true := by kernel_rfl
theorem h0_38 : BH0 j0_38 = true := by kernel_rfl
theorem r0_38 : BR0 j0_38 = true := by kernel_rfl
theorem z0_39 : BZ0 39 j0_39 = true := by kernel_rfl
theorem h0_39 : BH0 j0_39 = true := by kernel_rfl
theorem r0_39 : BR0 j0_39 = true := by kernel_rfl
theorem z0_40 : BZ0 40 j0_40 = true := by kernel_rfl
theorem h0_40 : BH0 j0_40 = true := by kernel_rfl
theorem r0_40 : BR0 j0_40 = true := by kernel_rfl
theorem z0_41 : BZ0 41 j0_41 = true := by kernel_rfl
theorem h0_41 : BH0 j0_41 = true := by kernel_rfl
theorem r0_41 : BR0 j0_41 = true := by kernel_rfl
theorem z0_42 : BZ0 42 j0_42 = true := by kernel_rfl
theorem h0_42 : BH0 j0_42 = true := by kernel_rfl
theorem r0_42 : BR0 j0_42 = true := by kernel_rfl
theorem z0_43 : BZ0 43 j0_43 = true := by kernel_rfl
theorem h0_43 : BH0 j0_43 = true := by kernel_rfl
theorem r0_43 : BR0 j0_43 = true := by kernel_rfl
theorem z0_44 : BZ0 44 j0_44 = true := by kernel_rfl
theorem h0_44 : BH0 j0_44 = true := by kernel_rfl
theorem r0_44 : BR0 j0_44 = true := by kernel_rfl
theorem z0_45 : BZ0 45 j0_45 = true := by kernel_rfl
theorem h0_45 : BH0 j0_45 = true := by kernel_rfl
theorem r0_45 : BR0 j0_45 = true := by kernel_rfl
theorem z0_46 : BZ0 46 j0_46 = true := by kernel_rfl
theorem h0_46 : BH0 j0_46 = true := by kernel_rfl
theorem r0_46 : BR0 j0_46 = true := by kernel_rfl
theorem z0_47 : BZ0 47 j0_47 = true := by kernel_rfl
theorem h0_47 : BH0 j0_47 = true := by kernel_rfl
theorem r0_47 : BR0 j0_47 = true := by kernel_rfl
theorem z0_48 : BZ0 48 j0_48 = true := by kernel_rfl
theorem h0_48 : BH0 j0_48 = true := by kernel_rfl
theorem r0_48 : BR0 j0_48 = true := by kernel_rfl
theorem z0_49 : BZ0 49 j0_49 = true := by kernel_rfl
theorem h0_49 : BH0 j0_49 = true := by kernel_rfl
theorem r0_49 : BR0 j0_49 = true := by kernel_rfl
end Go.Proofs.Ytmmpnjcmaodkcaa.Ef
