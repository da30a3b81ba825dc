/- What is proved: the ways between patterns of CloverPlays. Conditions: none. -/
import Derived.Test.YtkelfdnhgdjaaaaGreatCloverPlaysS
namespace Go.Proofs.YtkelfdnhgdjaaaaGreat.Ef.cloverPlays
open Go Go.RowKit Go.Proofs.YtkelfdnhgdjaaaaGreat.Sep Go.Proofs.YtkelfdnhgdjaaaaGreat.Num Go.Proofs.YtkelfdnhgdjaaaaGreat.Mem Go.Proofs.YtkelfdnhgdjaaaaGreat.Ef
open Go.Proofs.YtkelfdnhgdjaaaaGreat.Ev (Fast)
set_option maxRecDepth 100000
set_option linter.unusedVariables false
noncomputable section
theorem ck0_0 : PP c0 n12 hp0 := .one [0] (by kernel_rfl)
theorem ck0_1 : PP c0 n14 hp0 := .one [0,0,0,0,0,0,0,0,0,0,0,0,0,0,0,0] (by kernel_rfl)
theorem ck0_2 : PP c0 n15 hp0 := .one [0,0,0,0,0,0,0,0,0,0,0,0,0,0,0,0,0,0,0,0,0,0,0,0,0,0,0,0,0,0,0,0] (by kernel_rfl)
theorem ck0_3 : PP c0 n11 hp0 := .one [0] (by kernel_rfl)
theorem ck0_4 : PP c0 n9 hp0 := .one [0] (by kernel_rfl)
theorem ck0_5 : PP c0 n7 hp0 := .one [] (by kernel_rfl)
theorem ck0_6 : PP c0 n5 hp0 := .one [] (by kernel_rfl)
theorem ck0_7 : PP c0 n3 hp1 := .one [0,0] (by kernel_rfl)
theorem ck0_8 : PP c0 n28 hp2 := .one [0] (by kernel_rfl)
theorem ck0_9 : PP c0 n30 hp2 := .one [0,0,0,0,0,0,0,0,0,0,0,0,0,0,0,0] (by kernel_rfl)
theorem ck0_10 : PP c0 n31 hp2 := .one [0,0,0,0,0,0,0,0,0,0,0,0,0,0,0,0,0,0,0,0,0,0,0,0,0,0,0,0,0,0,0,0] (by kernel_rfl)
theorem ck0_11 : PP c0 n27 hp2 := .one [0] (by kernel_rfl)
theorem ck0_12 : PP c0 n25 hp2 := .one [0] (by kernel_rfl)
theorem ck0_13 : PP c0 n23 hp2 := .one [] (by kernel_rfl)
theorem ck0_14 : PP c0 n21 hp2 := .one [] (by kernel_rfl)
theorem ck0_15 : PP c0 n19 hp3 := .one [0,0] (by kernel_rfl)
theorem ck0_16 : PP c0 n42 hp4 := .one [0] (by kernel_rfl)
theorem ck0_17 : PP c0 n44 hp4 := .one [0,0,0,0,0,0,0,0,0,0,0,0,0,0,0,0] (by kernel_rfl)
theorem ck0_18 : PP c0 n45 hp4 := .one [0,0,0,0,0,0,0,0,0,0,0,0,0,0,0,0,0,0,0,0,0,0,0,0,0,0,0,0,0,0,0,0] (by kernel_rfl)
theorem ck0_19 : PP c0 n41 hp4 := .one [0] (by kernel_rfl)
end
end Go.Proofs.YtkelfdnhgdjaaaaGreat.Ef.cloverPlays
