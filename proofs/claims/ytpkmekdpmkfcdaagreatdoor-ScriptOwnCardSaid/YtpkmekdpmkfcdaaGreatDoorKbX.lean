/- Contracts: a book of all kinds is written over, grown, asked. Contracts: a book of all kinds is written over, grown. -/
import Derived.Test.YtpkmekdpmkfcdaaGreatDoorKbS
import Derived.Test.YtpkmekdpmkfcdaaGreatDoorKbW
import Derived.Test.YtpkmekdpmkfcdaaGreatDoorKbGB
import Derived.Test.YtpkmekdpmkfcdaaGreatDoorKbGL
import Derived.Test.YtpkmekdpmkfcdaaGreatDoorKbGC
import Derived.Test.YtpkmekdpmkfcdaaGreatDoorKbGF
import Derived.Test.YtpkmekdpmkfcdaaGreatDoorKbGO
namespace Go.Proofs.YtpkmekdpmkfcdaaGreatDoor.Kb
set_option linter.unusedVariables false
set_option linter.unusedSimpArgs false
open Go.RowKit Go.Proofs.YtpkmekdpmkfcdaaGreatDoor.Wd Go.Proofs.YtpkmekdpmkfcdaaGreatDoor.Px Go.Proofs.YtpkmekdpmkfcdaaGreatDoor.By Go.Proofs.YtpkmekdpmkfcdaaGreatDoor.Pf Go.Proofs.YtpkmekdpmkfcdaaGreatDoor.Sc
open Go.Proofs.YtpkmekdpmkfcdaaGreatDoor.Sr (own_same own_kind own_low CRow ORow OpO Opv Und fltC Lim LimO chC opC nl put14)
theorem intsWrite_0 (K : Nat) (id : Int) (w : World) (h : w.cell? ⟨K,8,none⟩ = some (.slice none 0 0)) : Calls Tryz.prog 89 #[.pointer (some ⟨K,0,none⟩),.int .i64 id] w fun e w' => e = .returned (.int .i64 id) ∧ w' = w := by
 go_enter Tryz.func89,Tryz.ntmps89
 go_wp2
 refine wp_loop_rounds 1 ?_
 rw [rounds_succ]
 go_wp2
 go_ret
 exact ⟨rfl,rfl⟩
theorem intsGrow_0 (K : Nat) (id t : Int) (w : World) (h : w.cell? ⟨K,8,none⟩ = some (.slice none 0 0)) : Calls Tryz.prog 123 #[.pointer (some ⟨K,0,none⟩),.int .i64 id,.int .i64 t] w fun e w' => e = .returned (.int .i64 id) ∧ w' = w := by
 go_enter Tryz.func123,Tryz.ntmps123
 go_wp2
 refine wp_loop_rounds 1 ?_
 rw [rounds_succ]
 go_wp2
 go_ret
 exact ⟨rfl,rfl⟩
theorem intsHold_0 (K : Nat) (id : Int) (w : World) (h : w.cell? ⟨K,8,none⟩ = some (.slice none 0 0)) : Calls Tryz.prog 106 #[.pointer (some ⟨K,0,none⟩),.int .i64 id] w fun e w' => e = .returned (.tuple #[.int .i64 id,.bool true]) ∧ w' = w := by
 go_enter Tryz.func106,Tryz.ntmps106
 go_wp2
 refine wp_loop_rounds 1 ?_
 rw [rounds_succ]
 go_wp2
 go_ret2
 exact ⟨rfl,rfl⟩
theorem textsWrite_0 (K : Nat) (id : Int) (w : World) (h : w.cell? ⟨K,11,none⟩ = some (.slice none 0 0)) : Calls Tryz.prog 90 #[.pointer (some ⟨K,0,none⟩),.int .i64 id] w fun e w' => e = .returned (.int .i64 id) ∧ w' = w := by
 go_enter Tryz.func90,Tryz.ntmps90
 go_wp2
 refine wp_loop_rounds 1 ?_
 rw [rounds_succ]
 go_wp2
 go_ret
 exact ⟨rfl,rfl⟩
theorem textsGrow_0 (K : Nat) (id t : Int) (w : World) (h : w.cell? ⟨K,11,none⟩ = some (.slice none 0 0)) : Calls Tryz.prog 124 #[.pointer (some ⟨K,0,none⟩),.int .i64 id,.int .i64 t] w fun e w' => e = .returned (.int .i64 id) ∧ w' = w := by
 go_enter Tryz.func124,Tryz.ntmps124
 go_wp2
 refine wp_loop_rounds 1 ?_
 rw [rounds_succ]
 go_wp2
 go_ret
 exact ⟨rfl,rfl⟩
theorem textsHold_0 (K : Nat) (id : Int) (w : World) (h : w.cell? ⟨K,11,none⟩ = some (.slice none 0 0)) : Calls Tryz.prog 107 #[.pointer (some ⟨K,0,none⟩),.int .i64 id] w fun e w' => e = .returned (.tuple #[.int .i64 id,.bool true]) ∧ w' = w := by
 go_enter Tryz.func107,Tryz.ntmps107
 go_wp2
 refine wp_loop_rounds 1 ?_
 rw [rounds_succ]
 go_wp2
 go_ret2
 exact ⟨rfl,rfl⟩
theorem byteListsWrite_0 (K : Nat) (id : Int) (w : World) (h : w.cell? ⟨K,14,none⟩ = some (.slice none 0 0)) : Calls Tryz.prog 91 #[.pointer (some ⟨K,0,none⟩),.int .i64 id] w fun e w' => e = .returned (.int .i64 id) ∧ w' = w := by
 go_enter Tryz.func91,Tryz.ntmps91
 go_wp2
 refine wp_loop_rounds 1 ?_
 rw [rounds_succ]
 go_wp2
 go_ret
 exact ⟨rfl,rfl⟩
theorem byteListsGrow_0 (K : Nat) (id t : Int) (w : World) (h : w.cell? ⟨K,14,none⟩ = some (.slice none 0 0)) : Calls Tryz.prog 125 #[.pointer (some ⟨K,0,none⟩),.int .i64 id,.int .i64 t] w fun e w' => e = .returned (.int .i64 id) ∧ w' = w := by
 go_enter Tryz.func125,Tryz.ntmps125
 go_wp2
 refine wp_loop_rounds 1 ?_
 rw [rounds_succ]
 go_wp2
 go_ret
 exact ⟨rfl,rfl⟩
theorem byteListsHold_0 (K : Nat) (id : Int) (w : World) (h : w.cell? ⟨K,14,none⟩ = some (.slice none 0 0)) : Calls Tryz.prog 108 #[.pointer (some ⟨K,0,none⟩),.int .i64 id] w fun e w' => e = .returned (.tuple #[.int .i64 id,.bool true]) ∧ w' = w := by
 go_enter Tryz.func108,Tryz.ntmps108
 go_wp2
 refine wp_loop_rounds 1 ?_
 rw [rounds_succ]
 go_wp2
 go_ret2
 exact ⟨rfl,rfl⟩
theorem prefixesWrite_0 (K : Nat) (id : Int) (w : World) (h : w.cell? ⟨K,17,none⟩ = some (.slice none 0 0)) : Calls Tryz.prog 92 #[.pointer (some ⟨K,0,none⟩),.int .i64 id] w fun e w' => e = .returned (.int .i64 id) ∧ w' = w := by
 go_enter Tryz.func92,Tryz.ntmps92
 go_wp2
 refine wp_loop_rounds 1 ?_
 rw [rounds_succ]
 go_wp2
 go_ret
 exact ⟨rfl,rfl⟩
theorem prefixesGrow_0 (K : Nat) (id t : Int) (w : World) (h : w.cell? ⟨K,17,none⟩ = some (.slice none 0 0)) : Calls Tryz.prog 126 #[.pointer (some ⟨K,0,none⟩),.int .i64 id,.int .i64 t] w fun e w' => e = .returned (.int .i64 id) ∧ w' = w := by
 go_enter Tryz.func126,Tryz.ntmps126
 go_wp2
 refine wp_loop_rounds 1 ?_
 rw [rounds_succ]
 go_wp2
 go_ret
 exact ⟨rfl,rfl⟩
theorem prefixesHold_0 (K : Nat) (id : Int) (w : World) (h : w.cell? ⟨K,17,none⟩ = some (.slice none 0 0)) : Calls Tryz.prog 109 #[.pointer (some ⟨K,0,none⟩),.int .i64 id] w fun e w' => e = .returned (.tuple #[.int .i64 id,.bool true]) ∧ w' = w := by
 go_enter Tryz.func109,Tryz.ntmps109
 go_wp2
 refine wp_loop_rounds 1 ?_
 rw [rounds_succ]
 go_wp2
 go_ret2
 exact ⟨rfl,rfl⟩
theorem openingsWrite_0 (K : Nat) (id : Int) (w : World) (h : w.cell? ⟨K,20,none⟩ = some (.slice none 0 0)) : Calls Tryz.prog 93 #[.pointer (some ⟨K,0,none⟩),.int .i64 id] w fun e w' => e = .returned (.int .i64 id) ∧ w' = w := by
 go_enter Tryz.func93,Tryz.ntmps93
 go_wp2
 refine wp_loop_rounds 1 ?_
 rw [rounds_succ]
 go_wp2
 go_ret
 exact ⟨rfl,rfl⟩
theorem openingsGrow_0 (K : Nat) (id t : Int) (w : World) (h : w.cell? ⟨K,20,none⟩ = some (.slice none 0 0)) : Calls Tryz.prog 127 #[.pointer (some ⟨K,0,none⟩),.int .i64 id,.int .i64 t] w fun e w' => e = .returned (.int .i64 id) ∧ w' = w := by
 go_enter Tryz.func127,Tryz.ntmps127
 go_wp2
 refine wp_loop_rounds 1 ?_
 rw [rounds_succ]
 go_wp2
 go_ret
 exact ⟨rfl,rfl⟩
theorem openingsHold_0 (K : Nat) (id : Int) (w : World) (h : w.cell? ⟨K,20,none⟩ = some (.slice none 0 0)) : Calls Tryz.prog 110 #[.pointer (some ⟨K,0,none⟩),.int .i64 id] w fun e w' => e = .returned (.tuple #[.int .i64 id,.bool true]) ∧ w' = w := by
 go_enter Tryz.func110,Tryz.ntmps110
 go_wp2
 refine wp_loop_rounds 1 ?_
 rw [rounds_succ]
 go_wp2
 go_ret2
 exact ⟨rfl,rfl⟩
theorem peersWrite_0 (K : Nat) (id : Int) (w : World) (h : w.cell? ⟨K,23,none⟩ = some (.slice none 0 0)) : Calls Tryz.prog 94 #[.pointer (some ⟨K,0,none⟩),.int .i64 id] w fun e w' => e = .returned (.int .i64 id) ∧ w' = w := by
 go_enter Tryz.func94,Tryz.ntmps94
 go_wp2
 refine wp_loop_rounds 1 ?_
 rw [rounds_succ]
 go_wp2
 go_ret
 exact ⟨rfl,rfl⟩
theorem peersGrow_0 (K : Nat) (id t : Int) (w : World) (h : w.cell? ⟨K,23,none⟩ = some (.slice none 0 0)) : Calls Tryz.prog 128 #[.pointer (some ⟨K,0,none⟩),.int .i64 id,.int .i64 t] w fun e w' => e = .returned (.int .i64 id) ∧ w' = w := by
 go_enter Tryz.func128,Tryz.ntmps128
 go_wp2
 refine wp_loop_rounds 1 ?_
 rw [rounds_succ]
 go_wp2
 go_ret
 exact ⟨rfl,rfl⟩
theorem peersHold_0 (K : Nat) (id : Int) (w : World) (h : w.cell? ⟨K,23,none⟩ = some (.slice none 0 0)) : Calls Tryz.prog 111 #[.pointer (some ⟨K,0,none⟩),.int .i64 id] w fun e w' => e = .returned (.tuple #[.int .i64 id,.bool true]) ∧ w' = w := by
 go_enter Tryz.func111,Tryz.ntmps111
 go_wp2
 refine wp_loop_rounds 1 ?_
 rw [rounds_succ]
 go_wp2
 go_ret2
 exact ⟨rfl,rfl⟩
theorem lanesWrite_0 (K : Nat) (id : Int) (w : World) (h : w.cell? ⟨K,26,none⟩ = some (.slice none 0 0)) : Calls Tryz.prog 95 #[.pointer (some ⟨K,0,none⟩),.int .i64 id] w fun e w' => e = .returned (.int .i64 id) ∧ w' = w := by
 go_enter Tryz.func95,Tryz.ntmps95
 go_wp2
 refine wp_loop_rounds 1 ?_
 rw [rounds_succ]
 go_wp2
 go_ret
 exact ⟨rfl,rfl⟩
theorem lanesGrow_0 (K : Nat) (id t : Int) (w : World) (h : w.cell? ⟨K,26,none⟩ = some (.slice none 0 0)) : Calls Tryz.prog 129 #[.pointer (some ⟨K,0,none⟩),.int .i64 id,.int .i64 t] w fun e w' => e = .returned (.int .i64 id) ∧ w' = w := by
 go_enter Tryz.func129,Tryz.ntmps129
 go_wp2
 refine wp_loop_rounds 1 ?_
 rw [rounds_succ]
 go_wp2
 go_ret
 exact ⟨rfl,rfl⟩
theorem lanesHold_0 (K : Nat) (id : Int) (w : World) (h : w.cell? ⟨K,26,none⟩ = some (.slice none 0 0)) : Calls Tryz.prog 112 #[.pointer (some ⟨K,0,none⟩),.int .i64 id] w fun e w' => e = .returned (.tuple #[.int .i64 id,.bool true]) ∧ w' = w := by
 go_enter Tryz.func112,Tryz.ntmps112
 go_wp2
 refine wp_loop_rounds 1 ?_
 rw [rounds_succ]
 go_wp2
 go_ret2
 exact ⟨rfl,rfl⟩
theorem rowsWrite_0 (K : Nat) (id : Int) (w : World) (h : w.cell? ⟨K,29,none⟩ = some (.slice none 0 0)) : Calls Tryz.prog 96 #[.pointer (some ⟨K,0,none⟩),.int .i64 id] w fun e w' => e = .returned (.int .i64 id) ∧ w' = w := by
 go_enter Tryz.func96,Tryz.ntmps96
 go_wp2
 refine wp_loop_rounds 1 ?_
 rw [rounds_succ]
 go_wp2
 go_ret
 exact ⟨rfl,rfl⟩
theorem rowsGrow_0 (K : Nat) (id t : Int) (w : World) (h : w.cell? ⟨K,29,none⟩ = some (.slice none 0 0)) : Calls Tryz.prog 130 #[.pointer (some ⟨K,0,none⟩),.int .i64 id,.int .i64 t] w fun e w' => e = .returned (.int .i64 id) ∧ w' = w := by
 go_enter Tryz.func130,Tryz.ntmps130
 go_wp2
 refine wp_loop_rounds 1 ?_
 rw [rounds_succ]
 go_wp2
 go_ret
 exact ⟨rfl,rfl⟩
theorem rowsHold_0 (K : Nat) (id : Int) (w : World) (h : w.cell? ⟨K,29,none⟩ = some (.slice none 0 0)) : Calls Tryz.prog 113 #[.pointer (some ⟨K,0,none⟩),.int .i64 id] w fun e w' => e = .returned (.tuple #[.int .i64 id,.bool true]) ∧ w' = w := by
 go_enter Tryz.func113,Tryz.ntmps113
 go_wp2
 refine wp_loop_rounds 1 ?_
 rw [rounds_succ]
 go_wp2
 go_ret2
 exact ⟨rfl,rfl⟩
theorem setsWrite_0 (K : Nat) (id : Int) (w : World) (h : w.cell? ⟨K,32,none⟩ = some (.slice none 0 0)) : Calls Tryz.prog 97 #[.pointer (some ⟨K,0,none⟩),.int .i64 id] w fun e w' => e = .returned (.int .i64 id) ∧ w' = w := by
 go_enter Tryz.func97,Tryz.ntmps97
 go_wp2
 refine wp_loop_rounds 1 ?_
 rw [rounds_succ]
 go_wp2
 go_ret
 exact ⟨rfl,rfl⟩
theorem setsGrow_0 (K : Nat) (id t : Int) (w : World) (h : w.cell? ⟨K,32,none⟩ = some (.slice none 0 0)) : Calls Tryz.prog 131 #[.pointer (some ⟨K,0,none⟩),.int .i64 id,.int .i64 t] w fun e w' => e = .returned (.int .i64 id) ∧ w' = w := by
 go_enter Tryz.func131,Tryz.ntmps131
 go_wp2
 refine wp_loop_rounds 1 ?_
 rw [rounds_succ]
 go_wp2
 go_ret
 exact ⟨rfl,rfl⟩
theorem setsHold_0 (K : Nat) (id : Int) (w : World) (h : w.cell? ⟨K,32,none⟩ = some (.slice none 0 0)) : Calls Tryz.prog 114 #[.pointer (some ⟨K,0,none⟩),.int .i64 id] w fun e w' => e = .returned (.tuple #[.int .i64 id,.bool true]) ∧ w' = w := by
 go_enter Tryz.func114,Tryz.ntmps114
 go_wp2
 refine wp_loop_rounds 1 ?_
 rw [rounds_succ]
 go_wp2
 go_ret2
 exact ⟨rfl,rfl⟩
theorem pendingsWrite_0 (K : Nat) (id : Int) (w : World) (h : w.cell? ⟨K,35,none⟩ = some (.slice none 0 0)) : Calls Tryz.prog 98 #[.pointer (some ⟨K,0,none⟩),.int .i64 id] w fun e w' => e = .returned (.int .i64 id) ∧ w' = w := by
 go_enter Tryz.func98,Tryz.ntmps98
 go_wp2
 refine wp_loop_rounds 1 ?_
 rw [rounds_succ]
 go_wp2
 go_ret
 exact ⟨rfl,rfl⟩
theorem pendingsGrow_0 (K : Nat) (id t : Int) (w : World) (h : w.cell? ⟨K,35,none⟩ = some (.slice none 0 0)) : Calls Tryz.prog 132 #[.pointer (some ⟨K,0,none⟩),.int .i64 id,.int .i64 t] w fun e w' => e = .returned (.int .i64 id) ∧ w' = w := by
 go_enter Tryz.func132,Tryz.ntmps132
 go_wp2
 refine wp_loop_rounds 1 ?_
 rw [rounds_succ]
 go_wp2
 go_ret
 exact ⟨rfl,rfl⟩
theorem pendingsHold_0 (K : Nat) (id : Int) (w : World) (h : w.cell? ⟨K,35,none⟩ = some (.slice none 0 0)) : Calls Tryz.prog 115 #[.pointer (some ⟨K,0,none⟩),.int .i64 id] w fun e w' => e = .returned (.tuple #[.int .i64 id,.bool true]) ∧ w' = w := by
 go_enter Tryz.func115,Tryz.ntmps115
 go_wp2
 refine wp_loop_rounds 1 ?_
 rw [rounds_succ]
 go_wp2
 go_ret2
 exact ⟨rfl,rfl⟩
theorem flightsWrite_0 (K : Nat) (id : Int) (w : World) (h : w.cell? ⟨K,44,none⟩ = some (.slice none 0 0)) : Calls Tryz.prog 101 #[.pointer (some ⟨K,0,none⟩),.int .i64 id] w fun e w' => e = .returned (.int .i64 id) ∧ w' = w := by
 go_enter Tryz.func101,Tryz.ntmps101
 go_wp2
 refine wp_loop_rounds 1 ?_
 rw [rounds_succ]
 go_wp2
 go_ret
 exact ⟨rfl,rfl⟩
theorem flightsGrow_0 (K : Nat) (id t : Int) (w : World) (h : w.cell? ⟨K,44,none⟩ = some (.slice none 0 0)) : Calls Tryz.prog 135 #[.pointer (some ⟨K,0,none⟩),.int .i64 id,.int .i64 t] w fun e w' => e = .returned (.int .i64 id) ∧ w' = w := by
 go_enter Tryz.func135,Tryz.ntmps135
 go_wp2
 refine wp_loop_rounds 1 ?_
 rw [rounds_succ]
 go_wp2
 go_ret
 exact ⟨rfl,rfl⟩
theorem flightsHold_0 (K : Nat) (id : Int) (w : World) (h : w.cell? ⟨K,44,none⟩ = some (.slice none 0 0)) : Calls Tryz.prog 118 #[.pointer (some ⟨K,0,none⟩),.int .i64 id] w fun e w' => e = .returned (.tuple #[.int .i64 id,.bool true]) ∧ w' = w := by
 go_enter Tryz.func118,Tryz.ntmps118
 go_wp2
 refine wp_loop_rounds 1 ?_
 rw [rounds_succ]
 go_wp2
 go_ret2
 exact ⟨rfl,rfl⟩
theorem eventsWrite_0 (K : Nat) (id : Int) (w : World) (h : w.cell? ⟨K,50,none⟩ = some (.slice none 0 0)) : Calls Tryz.prog 103 #[.pointer (some ⟨K,0,none⟩),.int .i64 id] w fun e w' => e = .returned (.int .i64 id) ∧ w' = w := by
 go_enter Tryz.func103,Tryz.ntmps103
 go_wp2
 refine wp_loop_rounds 1 ?_
 rw [rounds_succ]
 go_wp2
 go_ret
 exact ⟨rfl,rfl⟩
theorem eventsGrow_0 (K : Nat) (id t : Int) (w : World) (h : w.cell? ⟨K,50,none⟩ = some (.slice none 0 0)) : Calls Tryz.prog 137 #[.pointer (some ⟨K,0,none⟩),.int .i64 id,.int .i64 t] w fun e w' => e = .returned (.int .i64 id) ∧ w' = w := by
 go_enter Tryz.func137,Tryz.ntmps137
 go_wp2
 refine wp_loop_rounds 1 ?_
 rw [rounds_succ]
 go_wp2
 go_ret
 exact ⟨rfl,rfl⟩
theorem eventsHold_0 (K : Nat) (id : Int) (w : World) (h : w.cell? ⟨K,50,none⟩ = some (.slice none 0 0)) : Calls Tryz.prog 120 #[.pointer (some ⟨K,0,none⟩),.int .i64 id] w fun e w' => e = .returned (.tuple #[.int .i64 id,.bool true]) ∧ w' = w := by
 go_enter Tryz.func120,Tryz.ntmps120
 go_wp2
 refine wp_loop_rounds 1 ?_
 rw [rounds_succ]
 go_wp2
 go_ret2
 exact ⟨rfl,rfl⟩
/-- how many lists there are -/
structure Few (L : Ks) : Prop where
 b : L.b.length ≤ 900000000000
 l : L.l.length ≤ 900000000000
 c : L.c.length ≤ 900000000000
 f : L.f.length ≤ 900000000000
 o : L.o.length ≤ 900000000000
/-- how long they are -/
structure Low (M : Nat) (L : Ks) : Prop where
 b : ∀ x ∈ L.b,x.n ≤ M
 l : ∀ x ∈ L.l,x.n ≤ M
 c : ∀ x ∈ L.c,x.n ≤ M
 f : ∀ x ∈ L.f,x.n ≤ M
 o : ∀ x ∈ L.o,x.n ≤ M
/-- each list of G shows the marks of its number among those of L -/
structure Mka (p : Nat) (L G : Ks) : Prop where
 b : Mkd kB p 0 G.b
 l : Mkd kL p L.b.length G.l
 c : Mkd kC p (L.b.length + L.l.length) G.c
 f : Mkd kF p (L.b.length + L.l.length + L.c.length) G.f
 o : Mkd kO p (L.b.length + L.l.length + L.c.length + L.f.length) G.o
/-- as many lists -/
structure Lens (L G : Ks) : Prop where
 b : G.b.length = L.b.length
 l : G.l.length = L.l.length
 c : G.c.length = L.c.length
 f : G.f.length = L.f.length
 o : G.o.length = L.o.length
theorem Mkd.nil (κ : Kin) (p id : Nat) : Mkd κ p id [] := fun i l h => by simp at h
theorem Mka.nil (p : Nat) (L : Ks) : Mka p L ks0 := ⟨Mkd.nil _ _ _,Mkd.nil _ _ _,Mkd.nil _ _ _,Mkd.nil _ _ _,Mkd.nil _ _ _⟩
theorem Low.nil (M : Nat) : Low M ks0 := ⟨fun x h => by simp [ks0] at h,fun x h => by simp [ks0] at h,fun x h => by simp [ks0] at h,fun x h => by simp [ks0] at h,fun x h => by simp [ks0] at h⟩
theorem Low.mono {M M' : Nat} {L : Ks} (h : Low M L) (hM : M ≤ M') : Low M' L := ⟨fun x hx => Nat.le_trans (h.b x hx) hM,fun x hx => Nat.le_trans (h.l x hx) hM,fun x hx => Nat.le_trans (h.c x hx) hM,fun x hx => Nat.le_trans (h.f x hx) hM,fun x hx => Nat.le_trans (h.o x hx) hM⟩
theorem Mka.lens {p : Nat} {L L' G : Ks} (h : Mka p L G) (hl : Lens L L') : Mka p L' G := by
 obtain ⟨h1,h2,h3,h4,h5⟩ := h
 exact ⟨h1,by rw [hl.b];exact h2,by rw [hl.b,hl.l];exact h3,by rw [hl.b,hl.l,hl.c];exact h4,by rw [hl.b,hl.l,hl.c,hl.f];exact h5⟩
theorem Few.lens {L L' : Ks} (h : Few L) (hl : Lens L L') : Few L' := by
 obtain ⟨h1,h2,h3,h4,h5⟩ := h
 exact ⟨by rw [hl.b];exact h1,by rw [hl.l];exact h2,by rw [hl.c];exact h3,by rw [hl.f];exact h4,by rw [hl.o];exact h5⟩
set_option maxRecDepth 20000 in
set_option maxHeartbeats 8000000 in
theorem holds_a (B K p : Nat) (L G : Ks) (w : World) (h : Bok B K p L G w) (hp : p ≤ 1) (hf : Few L) (hm : Mka p L L) (hg : Mka p L G) (hl : Low 2000000 L) (hl2 : Low 2000100 G) :
  Calls Tryz.prog 50 #[.pointer (some ⟨K,0,none⟩)] w fun e w' => e = .returned (.bool true) ∧ Below w.heap.size w w' := by
 have H := Lib.hid h
 have HF := Lib.hid hf
 have HM := Lib.hid hm
 have HG := Lib.hid hg
 have HL := Lib.hid (hl.mono (M' := 2000100) (by omega))
 have HL2 := Lib.hid hl2
 have hK0 := h.kw
 have c0 := h.ba.c0
 obtain ⟨f1,f2,f3,f4,f5⟩ := hf
 obtain ⟨J1,hJ1⟩ : ∃ J : Int,((L.b.length : Nat) : Int) = J := ⟨_,rfl⟩
 obtain ⟨J2,hJ2⟩ : ∃ J : Int,((L.b.length + L.l.length : Nat) : Int) = J := ⟨_,rfl⟩
 obtain ⟨J3,hJ3⟩ : ∃ J : Int,((L.b.length + L.l.length + L.c.length : Nat) : Int) = J := ⟨_,rfl⟩
 obtain ⟨J4,hJ4⟩ : ∃ J : Int,((L.b.length + L.l.length + L.c.length + L.f.length : Nat) : Int) = J := ⟨_,rfl⟩
 obtain ⟨J5,hJ5⟩ : ∃ J : Int,((L.b.length + L.l.length + L.c.length + L.f.length + L.o.length : Nat) : Int) = J := ⟨_,rfl⟩
 have HJ := Lib.hid (And.intro hJ1 (And.intro hJ2 (And.intro hJ3 (And.intro hJ4 hJ5))))
 have KB : Hid (∀ W : World,Bok B K p L G W → Calls Tryz.prog 104 #[.pointer (some ⟨K,0,none⟩),.int .i64 0] W fun e w' => e = .returned (.tuple #[.int .i64 J1,.bool true]) ∧ Below W.heap.size W w') := Lib.hid fun W hW => by
  have := hold_B B K p 0 L.b G.b W hW.hb hW.ba hW.kb hW.bw hp (by omega) (by omega) HM.out.b HG.out.b HL.out.b HL2.out.b
  rw [show (0 + L.b.length : Nat) = L.b.length from Nat.zero_add _,hJ1] at this
  exact this
 have KL : Hid (∀ W : World,Bok B K p L G W → Calls Tryz.prog 105 #[.pointer (some ⟨K,0,none⟩),.int .i64 J1] W fun e w' => e = .returned (.tuple #[.int .i64 J2,.bool true]) ∧ Below W.heap.size W w') := Lib.hid fun W hW => by
  have := hold_L B K p (L.b.length) L.l G.l W hW.hl hW.ba hW.kb hW.bw hp (by omega) (by omega) HM.out.l HG.out.l HL.out.l HL2.out.l
  rw [hJ2,hJ1] at this
  exact this
 have KC : Hid (∀ W : World,Bok B K p L G W → Calls Tryz.prog 116 #[.pointer (some ⟨K,0,none⟩),.int .i64 J2] W fun e w' => e = .returned (.tuple #[.int .i64 J3,.bool true]) ∧ Below W.heap.size W w') := Lib.hid fun W hW => by
  have := hold_C B K p (L.b.length + L.l.length) L.c G.c W hW.hc hW.ba hW.kb hW.bw hp (by omega) (by omega) HM.out.c HG.out.c HL.out.c HL2.out.c
  rw [hJ3,hJ2] at this
  exact this
 have KF : Hid (∀ W : World,Bok B K p L G W → Calls Tryz.prog 117 #[.pointer (some ⟨K,0,none⟩),.int .i64 J3] W fun e w' => e = .returned (.tuple #[.int .i64 J4,.bool true]) ∧ Below W.heap.size W w') := Lib.hid fun W hW => by
  have := hold_F B K p (L.b.length + L.l.length + L.c.length) L.f G.f W hW.hf hW.ba hW.kb hW.bw hp (by omega) (by omega) HM.out.f HG.out.f HL.out.f HL2.out.f
  rw [hJ4,hJ3] at this
  exact this
 have KO : Hid (∀ W : World,Bok B K p L G W → Calls Tryz.prog 119 #[.pointer (some ⟨K,0,none⟩),.int .i64 J4] W fun e w' => e = .returned (.tuple #[.int .i64 J5,.bool true]) ∧ Below W.heap.size W w') := Lib.hid fun W hW => by
  have := hold_O B K p (L.b.length + L.l.length + L.c.length + L.f.length) L.o G.o W hW.ho hW.ba hW.kb hW.bw hp (by omega) (by omega) HM.out.o HG.out.o HL.out.o HL2.out.o
  rw [hJ5,hJ4] at this
  exact this
 clear hJ1 hJ2 hJ3 hJ4 hJ5 h hm hg hl hl2 f1 f2 f3 f4 f5
 go_enter Tryz.func50,Tryz.ntmps50
 go_wp2_with fail
 refine (KB.out _ H.out).mono ?_
 rintro e w1 ⟨rfl,hq1⟩
 have hs1 := hq1
 have N1 := Lib.hid (H.out.on hs1).ba.nn
 clear c0
 go_wp2_with fail
 refine (KL.out _ (H.out.on hs1)).mono ?_
 rintro e w2 ⟨rfl,hq2⟩
 have hs2 := hs1.trans (hq2.mono hs1.size)
 have N2 := Lib.hid (H.out.on hs2).ba.nn
 go_wp2_with fail
 have n_ints : w2.cell? ⟨K,8,none⟩ = some (.slice none 0 0) := N2.out 8 (by unfold Emp;omega)
 refine (intsHold_0 K J2 _ n_ints).mono ?_
 rintro e wx ⟨rfl,hwx⟩
 rw [hwx]
 clear hwx wx
 clear n_ints
 go_wp2_with fail
 have n_texts : w2.cell? ⟨K,11,none⟩ = some (.slice none 0 0) := N2.out 11 (by unfold Emp;omega)
 refine (textsHold_0 K J2 _ n_texts).mono ?_
 rintro e wx ⟨rfl,hwx⟩
 rw [hwx]
 clear hwx wx
 clear n_texts
 go_wp2_with fail
 have n_byteLists : w2.cell? ⟨K,14,none⟩ = some (.slice none 0 0) := N2.out 14 (by unfold Emp;omega)
 refine (byteListsHold_0 K J2 _ n_byteLists).mono ?_
 rintro e wx ⟨rfl,hwx⟩
 rw [hwx]
 clear hwx wx
 clear n_byteLists
 go_wp2_with fail
 have n_prefixes : w2.cell? ⟨K,17,none⟩ = some (.slice none 0 0) := N2.out 17 (by unfold Emp;omega)
 refine (prefixesHold_0 K J2 _ n_prefixes).mono ?_
 rintro e wx ⟨rfl,hwx⟩
 rw [hwx]
 clear hwx wx
 clear n_prefixes
 go_wp2_with fail
 have n_openings : w2.cell? ⟨K,20,none⟩ = some (.slice none 0 0) := N2.out 20 (by unfold Emp;omega)
 refine (openingsHold_0 K J2 _ n_openings).mono ?_
 rintro e wx ⟨rfl,hwx⟩
 rw [hwx]
 clear hwx wx
 clear n_openings
 go_wp2_with fail
 have n_peers : w2.cell? ⟨K,23,none⟩ = some (.slice none 0 0) := N2.out 23 (by unfold Emp;omega)
 refine (peersHold_0 K J2 _ n_peers).mono ?_
 rintro e wx ⟨rfl,hwx⟩
 rw [hwx]
 clear hwx wx
 clear n_peers
 go_wp2_with fail
 have n_lanes : w2.cell? ⟨K,26,none⟩ = some (.slice none 0 0) := N2.out 26 (by unfold Emp;omega)
 refine (lanesHold_0 K J2 _ n_lanes).mono ?_
 rintro e wx ⟨rfl,hwx⟩
 rw [hwx]
 clear hwx wx
 clear n_lanes
 go_wp2_with fail
 have n_rows : w2.cell? ⟨K,29,none⟩ = some (.slice none 0 0) := N2.out 29 (by unfold Emp;omega)
 refine (rowsHold_0 K J2 _ n_rows).mono ?_
 rintro e wx ⟨rfl,hwx⟩
 rw [hwx]
 clear hwx wx
 clear n_rows
 go_wp2_with fail
 have n_sets : w2.cell? ⟨K,32,none⟩ = some (.slice none 0 0) := N2.out 32 (by unfold Emp;omega)
 refine (setsHold_0 K J2 _ n_sets).mono ?_
 rintro e wx ⟨rfl,hwx⟩
 rw [hwx]
 clear hwx wx
 clear n_sets
 go_wp2_with fail
 have n_pendings : w2.cell? ⟨K,35,none⟩ = some (.slice none 0 0) := N2.out 35 (by unfold Emp;omega)
 refine (pendingsHold_0 K J2 _ n_pendings).mono ?_
 rintro e wx ⟨rfl,hwx⟩
 rw [hwx]
 clear hwx wx
 clear n_pendings
 go_wp2_with fail
 refine (KC.out _ (H.out.on hs2)).mono ?_
 rintro e w3 ⟨rfl,hq3⟩
 have hs3 := hs2.trans (hq3.mono hs2.size)
 have N3 := Lib.hid (H.out.on hs3).ba.nn
 go_wp2_with fail
 refine (KF.out _ (H.out.on hs3)).mono ?_
 rintro e w4 ⟨rfl,hq4⟩
 have hs4 := hs3.trans (hq4.mono hs3.size)
 have N4 := Lib.hid (H.out.on hs4).ba.nn
 go_wp2_with fail
 have n_flights : w4.cell? ⟨K,44,none⟩ = some (.slice none 0 0) := N4.out 44 (by unfold Emp;omega)
 refine (flightsHold_0 K J4 _ n_flights).mono ?_
 rintro e wx ⟨rfl,hwx⟩
 rw [hwx]
 clear hwx wx
 clear n_flights
 go_wp2_with fail
 refine (KO.out _ (H.out.on hs4)).mono ?_
 rintro e w5 ⟨rfl,hq5⟩
 have hs5 := hs4.trans (hq5.mono hs4.size)
 have N5 := Lib.hid (H.out.on hs5).ba.nn
 go_wp2_with fail
 have n_events : w5.cell? ⟨K,50,none⟩ = some (.slice none 0 0) := N5.out 50 (by unfold Emp;omega)
 refine (eventsHold_0 K J5 _ n_events).mono ?_
 rintro e wx ⟨rfl,hwx⟩
 rw [hwx]
 clear hwx wx
 clear n_events
 go_wp2
 go_ret
 exact ⟨rfl,hs5⟩
end Go.Proofs.YtpkmekdpmkfcdaaGreatDoor.Kb
namespace Go.Proofs.YtpkmekdpmkfcdaaGreatDoor.Kb
set_option linter.unusedVariables false
set_option linter.unusedSimpArgs false
open Go.RowKit Go.Proofs.YtpkmekdpmkfcdaaGreatDoor.Wd Go.Proofs.YtpkmekdpmkfcdaaGreatDoor.Px Go.Proofs.YtpkmekdpmkfcdaaGreatDoor.By Go.Proofs.YtpkmekdpmkfcdaaGreatDoor.Pf Go.Proofs.YtpkmekdpmkfcdaaGreatDoor.Sc
open Go.Proofs.YtpkmekdpmkfcdaaGreatDoor.Sr (own_same own_kind own_low CRow ORow OpO Opv Und fltC Lim LimO chC opC nl put14)
theorem Wn.len {κ : Kin} {p id : Nat} {ls ks : List Lst} {i j : Nat} (h : Wn κ p id ls i j ks) : ks.length = ls.length := h.1
set_option maxRecDepth 20000 in
set_option maxHeartbeats 8000000 in
theorem write_a (B K p : Nat) (L : Ks) (w : World) (h : Bok B K p L ks0 w) (hp : p ≤ 1) (hf : Few L) (hl : Low 2000000 L) :
  Calls Tryz.prog 49 #[.pointer (some ⟨K,0,none⟩)] w fun e w' => e = .returned (.tuple #[]) ∧ (∃ L',Bok B K p L' ks0 w' ∧ Lens L L' ∧ Mka p L' L' ∧ Low 2000000 L') ∧ FrO K w w' := by
 obtain ⟨f1,f2,f3,f4,f5⟩ := hf
 have H := Lib.hid h
 have c0 := h.ba.c0
 have hkb := h.kb
 obtain ⟨J1,hJ1⟩ : ∃ J : Int,((L.b.length : Nat) : Int) = J := ⟨_,rfl⟩
 obtain ⟨J2,hJ2⟩ : ∃ J : Int,((L.b.length + L.l.length : Nat) : Int) = J := ⟨_,rfl⟩
 obtain ⟨J3,hJ3⟩ : ∃ J : Int,((L.b.length + L.l.length + L.c.length : Nat) : Int) = J := ⟨_,rfl⟩
 obtain ⟨J4,hJ4⟩ : ∃ J : Int,((L.b.length + L.l.length + L.c.length + L.f.length : Nat) : Int) = J := ⟨_,rfl⟩
 obtain ⟨J5,hJ5⟩ : ∃ J : Int,((L.b.length + L.l.length + L.c.length + L.f.length + L.o.length : Nat) : Int) = J := ⟨_,rfl⟩
 have KB : Hid (∀ W : World,Kst kB B K L.b [] W → Bas K p W → B ≤ W.heap.size → Calls Tryz.prog 87 #[.pointer (some ⟨K,0,none⟩),.int .i64 0] W fun e w' => e = .returned (.int .i64 J1) ∧ ∃ ks,Kst kB B K ks [] w' ∧ Wn kB p (0) L.b L.b.length 0 ks ∧ Fr kB K W w') := Lib.hid fun W hW ba bw => by
  have := write_B B K p (0) L.b W hW ba hkb bw hp (by omega) (by omega) hl.b
  rw [show (0 + L.b.length : Nat) = L.b.length from Nat.zero_add _,hJ1] at this
  exact this
 have KL : Hid (∀ W : World,Kst kL B K L.l [] W → Bas K p W → B ≤ W.heap.size → Calls Tryz.prog 88 #[.pointer (some ⟨K,0,none⟩),.int .i64 J1] W fun e w' => e = .returned (.int .i64 J2) ∧ ∃ ks,Kst kL B K ks [] w' ∧ Wn kL p (L.b.length) L.l L.l.length 0 ks ∧ Fr kL K W w') := Lib.hid fun W hW ba bw => by
  have := write_L B K p (L.b.length) L.l W hW ba hkb bw hp (by omega) (by omega) hl.l
  rw [hJ2,hJ1] at this
  exact this
 have KC : Hid (∀ W : World,Kst kC B K L.c [] W → Bas K p W → B ≤ W.heap.size → Calls Tryz.prog 99 #[.pointer (some ⟨K,0,none⟩),.int .i64 J2] W fun e w' => e = .returned (.int .i64 J3) ∧ ∃ ks,Kst kC B K ks [] w' ∧ Wn kC p (L.b.length + L.l.length) L.c L.c.length 0 ks ∧ Fr kC K W w') := Lib.hid fun W hW ba bw => by
  have := write_C B K p (L.b.length + L.l.length) L.c W hW ba hkb bw hp (by omega) (by omega) hl.c
  rw [hJ3,hJ2] at this
  exact this
 have KF : Hid (∀ W : World,Kst kF B K L.f [] W → Bas K p W → B ≤ W.heap.size → Calls Tryz.prog 100 #[.pointer (some ⟨K,0,none⟩),.int .i64 J3] W fun e w' => e = .returned (.int .i64 J4) ∧ ∃ ks,Kst kF B K ks [] w' ∧ Wn kF p (L.b.length + L.l.length + L.c.length) L.f L.f.length 0 ks ∧ Fr kF K W w') := Lib.hid fun W hW ba bw => by
  have := write_F B K p (L.b.length + L.l.length + L.c.length) L.f W hW ba hkb bw hp (by omega) (by omega) hl.f
  rw [hJ4,hJ3] at this
  exact this
 have KO : Hid (∀ W : World,Kst kO B K L.o [] W → Bas K p W → B ≤ W.heap.size → Calls Tryz.prog 102 #[.pointer (some ⟨K,0,none⟩),.int .i64 J4] W fun e w' => e = .returned (.int .i64 J5) ∧ ∃ ks,Kst kO B K ks [] w' ∧ Wn kO p (L.b.length + L.l.length + L.c.length + L.f.length) L.o L.o.length 0 ks ∧ Fr kO K W w') := Lib.hid fun W hW ba bw => by
  have := write_O B K p (L.b.length + L.l.length + L.c.length + L.f.length) L.o W hW ba hkb bw hp (by omega) (by omega) hl.o
  rw [hJ5,hJ4] at this
  exact this
 have HLW := Lib.hid hl
 clear hJ1 hJ2 hJ3 hJ4 hJ5 h hl f1 f2 f3 f4 f5
 go_enter Tryz.func49,Tryz.ntmps49
 go_wp2_with fail
 refine (KB.out _ H.out.hb H.out.ba H.out.bw).mono ?_
 rintro e w1 ⟨rfl,k1,hk1,hw1,hfr1⟩
 have H1 := Lib.hid (H.out.setB hk1 hfr1)
 have HW1 := Lib.hid hw1
 have HF1 := Lib.hid (hfr1.fro)
 clear c0
 clear hk1 hw1 hfr1
 go_wp2_with fail
 refine (KL.out _ H1.out.hl H1.out.ba H1.out.bw).mono ?_
 rintro e w2 ⟨rfl,k2,hk2,hw2,hfr2⟩
 have H2 := Lib.hid (H1.out.setL hk2 hfr2)
 have HW2 := Lib.hid hw2
 have HF2 := Lib.hid (HF1.out.trans hfr2.fro)
 clear hk2 hw2 hfr2
 go_wp2_with fail
 have n_ints : w2.cell? ⟨K,8,none⟩ = some (.slice none 0 0) := H2.out.ba.nn 8 (by unfold Emp;omega)
 refine (intsWrite_0 K J2 _ n_ints).mono ?_
 rintro e wx ⟨rfl,hwx⟩
 rw [hwx]
 clear hwx wx n_ints
 go_wp2_with fail
 have n_texts : w2.cell? ⟨K,11,none⟩ = some (.slice none 0 0) := H2.out.ba.nn 11 (by unfold Emp;omega)
 refine (textsWrite_0 K J2 _ n_texts).mono ?_
 rintro e wx ⟨rfl,hwx⟩
 rw [hwx]
 clear hwx wx n_texts
 go_wp2_with fail
 have n_byteLists : w2.cell? ⟨K,14,none⟩ = some (.slice none 0 0) := H2.out.ba.nn 14 (by unfold Emp;omega)
 refine (byteListsWrite_0 K J2 _ n_byteLists).mono ?_
 rintro e wx ⟨rfl,hwx⟩
 rw [hwx]
 clear hwx wx n_byteLists
 go_wp2_with fail
 have n_prefixes : w2.cell? ⟨K,17,none⟩ = some (.slice none 0 0) := H2.out.ba.nn 17 (by unfold Emp;omega)
 refine (prefixesWrite_0 K J2 _ n_prefixes).mono ?_
 rintro e wx ⟨rfl,hwx⟩
 rw [hwx]
 clear hwx wx n_prefixes
 go_wp2_with fail
 have n_openings : w2.cell? ⟨K,20,none⟩ = some (.slice none 0 0) := H2.out.ba.nn 20 (by unfold Emp;omega)
 refine (openingsWrite_0 K J2 _ n_openings).mono ?_
 rintro e wx ⟨rfl,hwx⟩
 rw [hwx]
 clear hwx wx n_openings
 go_wp2_with fail
 have n_peers : w2.cell? ⟨K,23,none⟩ = some (.slice none 0 0) := H2.out.ba.nn 23 (by unfold Emp;omega)
 refine (peersWrite_0 K J2 _ n_peers).mono ?_
 rintro e wx ⟨rfl,hwx⟩
 rw [hwx]
 clear hwx wx n_peers
 go_wp2_with fail
 have n_lanes : w2.cell? ⟨K,26,none⟩ = some (.slice none 0 0) := H2.out.ba.nn 26 (by unfold Emp;omega)
 refine (lanesWrite_0 K J2 _ n_lanes).mono ?_
 rintro e wx ⟨rfl,hwx⟩
 rw [hwx]
 clear hwx wx n_lanes
 go_wp2_with fail
 have n_rows : w2.cell? ⟨K,29,none⟩ = some (.slice none 0 0) := H2.out.ba.nn 29 (by unfold Emp;omega)
 refine (rowsWrite_0 K J2 _ n_rows).mono ?_
 rintro e wx ⟨rfl,hwx⟩
 rw [hwx]
 clear hwx wx n_rows
 go_wp2_with fail
 have n_sets : w2.cell? ⟨K,32,none⟩ = some (.slice none 0 0) := H2.out.ba.nn 32 (by unfold Emp;omega)
 refine (setsWrite_0 K J2 _ n_sets).mono ?_
 rintro e wx ⟨rfl,hwx⟩
 rw [hwx]
 clear hwx wx n_sets
 go_wp2_with fail
 have n_pendings : w2.cell? ⟨K,35,none⟩ = some (.slice none 0 0) := H2.out.ba.nn 35 (by unfold Emp;omega)
 refine (pendingsWrite_0 K J2 _ n_pendings).mono ?_
 rintro e wx ⟨rfl,hwx⟩
 rw [hwx]
 clear hwx wx n_pendings
 go_wp2_with fail
 refine (KC.out _ H2.out.hc H2.out.ba H2.out.bw).mono ?_
 rintro e w3 ⟨rfl,k3,hk3,hw3,hfr3⟩
 have H3 := Lib.hid (H2.out.setC hk3 hfr3)
 have HW3 := Lib.hid hw3
 have HF3 := Lib.hid (HF2.out.trans hfr3.fro)
 clear hk3 hw3 hfr3
 go_wp2_with fail
 refine (KF.out _ H3.out.hf H3.out.ba H3.out.bw).mono ?_
 rintro e w4 ⟨rfl,k4,hk4,hw4,hfr4⟩
 have H4 := Lib.hid (H3.out.setF hk4 hfr4)
 have HW4 := Lib.hid hw4
 have HF4 := Lib.hid (HF3.out.trans hfr4.fro)
 clear hk4 hw4 hfr4
 go_wp2_with fail
 have n_flights : w4.cell? ⟨K,44,none⟩ = some (.slice none 0 0) := H4.out.ba.nn 44 (by unfold Emp;omega)
 refine (flightsWrite_0 K J4 _ n_flights).mono ?_
 rintro e wx ⟨rfl,hwx⟩
 rw [hwx]
 clear hwx wx n_flights
 go_wp2_with fail
 refine (KO.out _ H4.out.ho H4.out.ba H4.out.bw).mono ?_
 rintro e w5 ⟨rfl,k5,hk5,hw5,hfr5⟩
 have H5 := Lib.hid (H4.out.setO hk5 hfr5)
 have HW5 := Lib.hid hw5
 have HF5 := Lib.hid (HF4.out.trans hfr5.fro)
 clear hk5 hw5 hfr5
 go_wp2_with fail
 have n_events : w5.cell? ⟨K,50,none⟩ = some (.slice none 0 0) := H5.out.ba.nn 50 (by unfold Emp;omega)
 refine (eventsWrite_0 K J5 _ n_events).mono ?_
 rintro e wx ⟨rfl,hwx⟩
 rw [hwx]
 clear hwx wx n_events
 go_wp2
 go_end0
 have e1 := HW1.out.len
 have e2 := HW2.out.len
 have e3 := HW3.out.len
 have e4 := HW4.out.len
 have e5 := HW5.out.len
 have m1 := HW1.out.marked
 have m2 := HW2.out.marked
 have m3 := HW3.out.marked
 have m4 := HW4.out.marked
 have m5 := HW5.out.marked
 have hLn : Lens L ⟨k1,k2,k3,k4,k5⟩ := ⟨e1,e2,e3,e4,e5⟩
 refine ⟨rfl,⟨⟨k1,k2,k3,k4,k5⟩,H5.out,hLn,Mka.lens (L := L) ⟨m1,m2,m3,m4,m5⟩ hLn,⟨HW1.out.ns HLW.out.b,HW2.out.ns HLW.out.l,HW3.out.ns HLW.out.c,HW4.out.ns HLW.out.f,HW5.out.ns HLW.out.o⟩⟩,HF5.out⟩
/-- all kinds' growth so far -/
structure Gra (p : Nat) (L : Ks) (t : Nat) (G : Ks) : Prop where
 b : Gr kB p 0 L.b 0 t G.b
 l : Gr kL p L.b.length L.l 0 t G.l
 c : Gr kC p (L.b.length + L.l.length) L.c 0 t G.c
 f : Gr kF p (L.b.length + L.l.length + L.c.length) L.f 0 t G.f
 o : Gr kO p (L.b.length + L.l.length + L.c.length + L.f.length) L.o 0 t G.o
set_option maxRecDepth 20000 in
set_option maxHeartbeats 8000000 in
theorem grow_a (B K p : Nat) (L : Ks) (w : World) (h : Bok B K p L ks0 w) (hp : p ≤ 1) (hf : Few L) (hm : Mka p L L) (hl : Low 2000000 L) :
  Calls Tryz.prog 51 #[.pointer (some ⟨K,0,none⟩)] w fun e w' => e = .returned (.tuple #[]) ∧ (∃ G,Bok B K p L G w' ∧ Mka p L G ∧ Low 2000100 G) ∧ FrO K w w' := by
 obtain ⟨f1,f2,f3,f4,f5⟩ := hf
 have H := Lib.hid h
 have hkb := h.kb
 obtain ⟨J1,hJ1⟩ : ∃ J : Int,((L.b.length : Nat) : Int) = J := ⟨_,rfl⟩
 obtain ⟨J2,hJ2⟩ : ∃ J : Int,((L.b.length + L.l.length : Nat) : Int) = J := ⟨_,rfl⟩
 obtain ⟨J3,hJ3⟩ : ∃ J : Int,((L.b.length + L.l.length + L.c.length : Nat) : Int) = J := ⟨_,rfl⟩
 obtain ⟨J4,hJ4⟩ : ∃ J : Int,((L.b.length + L.l.length + L.c.length + L.f.length : Nat) : Int) = J := ⟨_,rfl⟩
 obtain ⟨J5,hJ5⟩ : ∃ J : Int,((L.b.length + L.l.length + L.c.length + L.f.length + L.o.length : Nat) : Int) = J := ⟨_,rfl⟩
 have KB : Hid (∀ (t : Nat) (G : List Lst) (W : World),t < 70 → Kst kB B K L.b G W → Bas K p W → Gr kB p (0) L.b 0 t G → B ≤ W.heap.size → Calls Tryz.prog 121 #[.pointer (some ⟨K,0,none⟩),.int .i64 0,.int .i64 (t : Int)] W fun e w' => e = .returned (.int .i64 J1) ∧ ∃ ks,Kst kB B K L.b ks w' ∧ Gr kB p (0) L.b 0 (t + 1) ks ∧ Fr kB K W w') := Lib.hid fun t G W ht hW ba hgr bw => by
  have := grow_B B K p (0) t L.b G W hW ba hgr hkb bw hp (by omega) (by omega) (by omega) hm.b hl.b
  rw [show (0 + L.b.length : Nat) = L.b.length from Nat.zero_add _,hJ1] at this
  exact this
 have KL : Hid (∀ (t : Nat) (G : List Lst) (W : World),t < 70 → Kst kL B K L.l G W → Bas K p W → Gr kL p (L.b.length) L.l 0 t G → B ≤ W.heap.size → Calls Tryz.prog 122 #[.pointer (some ⟨K,0,none⟩),.int .i64 J1,.int .i64 (t : Int)] W fun e w' => e = .returned (.int .i64 J2) ∧ ∃ ks,Kst kL B K L.l ks w' ∧ Gr kL p (L.b.length) L.l 0 (t + 1) ks ∧ Fr kL K W w') := Lib.hid fun t G W ht hW ba hgr bw => by
  have := grow_L B K p (L.b.length) t L.l G W hW ba hgr hkb bw hp (by omega) (by omega) (by omega) hm.l hl.l
  rw [hJ2,hJ1] at this
  exact this
 have KC : Hid (∀ (t : Nat) (G : List Lst) (W : World),t < 70 → Kst kC B K L.c G W → Bas K p W → Gr kC p (L.b.length + L.l.length) L.c 0 t G → B ≤ W.heap.size → Calls Tryz.prog 133 #[.pointer (some ⟨K,0,none⟩),.int .i64 J2,.int .i64 (t : Int)] W fun e w' => e = .returned (.int .i64 J3) ∧ ∃ ks,Kst kC B K L.c ks w' ∧ Gr kC p (L.b.length + L.l.length) L.c 0 (t + 1) ks ∧ Fr kC K W w') := Lib.hid fun t G W ht hW ba hgr bw => by
  have := grow_C B K p (L.b.length + L.l.length) t L.c G W hW ba hgr hkb bw hp (by omega) (by omega) (by omega) hm.c hl.c
  rw [hJ3,hJ2] at this
  exact this
 have KF : Hid (∀ (t : Nat) (G : List Lst) (W : World),t < 70 → Kst kF B K L.f G W → Bas K p W → Gr kF p (L.b.length + L.l.length + L.c.length) L.f 0 t G → B ≤ W.heap.size → Calls Tryz.prog 134 #[.pointer (some ⟨K,0,none⟩),.int .i64 J3,.int .i64 (t : Int)] W fun e w' => e = .returned (.int .i64 J4) ∧ ∃ ks,Kst kF B K L.f ks w' ∧ Gr kF p (L.b.length + L.l.length + L.c.length) L.f 0 (t + 1) ks ∧ Fr kF K W w') := Lib.hid fun t G W ht hW ba hgr bw => by
  have := grow_F B K p (L.b.length + L.l.length + L.c.length) t L.f G W hW ba hgr hkb bw hp (by omega) (by omega) (by omega) hm.f hl.f
  rw [hJ4,hJ3] at this
  exact this
 have KO : Hid (∀ (t : Nat) (G : List Lst) (W : World),t < 70 → Kst kO B K L.o G W → Bas K p W → Gr kO p (L.b.length + L.l.length + L.c.length + L.f.length) L.o 0 t G → B ≤ W.heap.size → Calls Tryz.prog 136 #[.pointer (some ⟨K,0,none⟩),.int .i64 J4,.int .i64 (t : Int)] W fun e w' => e = .returned (.int .i64 J5) ∧ ∃ ks,Kst kO B K L.o ks w' ∧ Gr kO p (L.b.length + L.l.length + L.c.length + L.f.length) L.o 0 (t + 1) ks ∧ Fr kO K W w') := Lib.hid fun t G W ht hW ba hgr bw => by
  have := grow_O B K p (L.b.length + L.l.length + L.c.length + L.f.length) t L.o G W hW ba hgr hkb bw hp (by omega) (by omega) (by omega) hm.o hl.o
  rw [hJ5,hJ4] at this
  exact this
 have HLW := Lib.hid hl
 clear hJ1 hJ2 hJ3 hJ4 hJ5 h hl hm f1 f2 f3 f4 f5
 go_enter Tryz.func51,Tryz.ntmps51
 go_wp2
 go_loopw [2] (fun t wr => ∃ (q : Nat) (G : Ks),q ≤ 70 ∧ t = .int .i64 (q : Int) ∧ Hid (Bok B K p L G wr) ∧ Hid (Gra p L q G) ∧ Hid (FrO K w wr)) (fun t _ => 70 - (intOf t).toNat)
 case atStart => exact ⟨0,ks0,Nat.zero_le _,rfl,H,Lib.hid ⟨Gr.start _ _ _ _,Gr.start _ _ _ _,Gr.start _ _ _ _,Gr.start _ _ _ _,Gr.start _ _ _ _⟩,Lib.hid (FrO.refl _ _)⟩
 case round =>
  obtain ⟨q,G,hq,rfl,HB,HG,HF⟩ := hrel
  by_cases hlt : q < 70
  ·have i1 : (q : Int) < 70 := by omega
   have c0 := HB.out.ba.c0
   go_wp2_with fail
   refine (KB.out q G.b _ hlt HB.out.hb HB.out.ba HG.out.b HB.out.bw).mono ?_
   rintro e w1 ⟨rfl,k1,hk1,hw1,hfr1⟩
   have H1 := Lib.hid (HB.out.setB hk1 hfr1)
   have HW1 := Lib.hid hw1
   have HF1 := Lib.hid (HF.out.trans hfr1.fro)
   clear c0
   clear hk1 hw1 hfr1
   go_wp2_with fail
   refine (KL.out q G.l _ hlt H1.out.hl H1.out.ba HG.out.l H1.out.bw).mono ?_
   rintro e w2 ⟨rfl,k2,hk2,hw2,hfr2⟩
   have H2 := Lib.hid (H1.out.setL hk2 hfr2)
   have HW2 := Lib.hid hw2
   have HF2 := Lib.hid (HF1.out.trans hfr2.fro)
   clear hk2 hw2 hfr2
   go_wp2_with fail
   have n_ints : w2.cell? ⟨K,8,none⟩ = some (.slice none 0 0) := H2.out.ba.nn 8 (by unfold Emp;omega)
   refine (intsGrow_0 K J2 (q : Int) _ n_ints).mono ?_
   rintro e wx ⟨rfl,hwx⟩
   rw [hwx]
   clear hwx wx n_ints
   go_wp2_with fail
   have n_texts : w2.cell? ⟨K,11,none⟩ = some (.slice none 0 0) := H2.out.ba.nn 11 (by unfold Emp;omega)
   refine (textsGrow_0 K J2 (q : Int) _ n_texts).mono ?_
   rintro e wx ⟨rfl,hwx⟩
   rw [hwx]
   clear hwx wx n_texts
   go_wp2_with fail
   have n_byteLists : w2.cell? ⟨K,14,none⟩ = some (.slice none 0 0) := H2.out.ba.nn 14 (by unfold Emp;omega)
   refine (byteListsGrow_0 K J2 (q : Int) _ n_byteLists).mono ?_
   rintro e wx ⟨rfl,hwx⟩
   rw [hwx]
   clear hwx wx n_byteLists
   go_wp2_with fail
   have n_prefixes : w2.cell? ⟨K,17,none⟩ = some (.slice none 0 0) := H2.out.ba.nn 17 (by unfold Emp;omega)
   refine (prefixesGrow_0 K J2 (q : Int) _ n_prefixes).mono ?_
   rintro e wx ⟨rfl,hwx⟩
   rw [hwx]
   clear hwx wx n_prefixes
   go_wp2_with fail
   have n_openings : w2.cell? ⟨K,20,none⟩ = some (.slice none 0 0) := H2.out.ba.nn 20 (by unfold Emp;omega)
   refine (openingsGrow_0 K J2 (q : Int) _ n_openings).mono ?_
   rintro e wx ⟨rfl,hwx⟩
   rw [hwx]
   clear hwx wx n_openings
   go_wp2_with fail
   have n_peers : w2.cell? ⟨K,23,none⟩ = some (.slice none 0 0) := H2.out.ba.nn 23 (by unfold Emp;omega)
   refine (peersGrow_0 K J2 (q : Int) _ n_peers).mono ?_
   rintro e wx ⟨rfl,hwx⟩
   rw [hwx]
   clear hwx wx n_peers
   go_wp2_with fail
   have n_lanes : w2.cell? ⟨K,26,none⟩ = some (.slice none 0 0) := H2.out.ba.nn 26 (by unfold Emp;omega)
   refine (lanesGrow_0 K J2 (q : Int) _ n_lanes).mono ?_
   rintro e wx ⟨rfl,hwx⟩
   rw [hwx]
   clear hwx wx n_lanes
   go_wp2_with fail
   have n_rows : w2.cell? ⟨K,29,none⟩ = some (.slice none 0 0) := H2.out.ba.nn 29 (by unfold Emp;omega)
   refine (rowsGrow_0 K J2 (q : Int) _ n_rows).mono ?_
   rintro e wx ⟨rfl,hwx⟩
   rw [hwx]
   clear hwx wx n_rows
   go_wp2_with fail
   have n_sets : w2.cell? ⟨K,32,none⟩ = some (.slice none 0 0) := H2.out.ba.nn 32 (by unfold Emp;omega)
   refine (setsGrow_0 K J2 (q : Int) _ n_sets).mono ?_
   rintro e wx ⟨rfl,hwx⟩
   rw [hwx]
   clear hwx wx n_sets
   go_wp2_with fail
   have n_pendings : w2.cell? ⟨K,35,none⟩ = some (.slice none 0 0) := H2.out.ba.nn 35 (by unfold Emp;omega)
   refine (pendingsGrow_0 K J2 (q : Int) _ n_pendings).mono ?_
   rintro e wx ⟨rfl,hwx⟩
   rw [hwx]
   clear hwx wx n_pendings
   go_wp2_with fail
   refine (KC.out q G.c _ hlt H2.out.hc H2.out.ba HG.out.c H2.out.bw).mono ?_
   rintro e w3 ⟨rfl,k3,hk3,hw3,hfr3⟩
   have H3 := Lib.hid (H2.out.setC hk3 hfr3)
   have HW3 := Lib.hid hw3
   have HF3 := Lib.hid (HF2.out.trans hfr3.fro)
   clear hk3 hw3 hfr3
   go_wp2_with fail
   refine (KF.out q G.f _ hlt H3.out.hf H3.out.ba HG.out.f H3.out.bw).mono ?_
   rintro e w4 ⟨rfl,k4,hk4,hw4,hfr4⟩
   have H4 := Lib.hid (H3.out.setF hk4 hfr4)
   have HW4 := Lib.hid hw4
   have HF4 := Lib.hid (HF3.out.trans hfr4.fro)
   clear hk4 hw4 hfr4
   go_wp2_with fail
   have n_flights : w4.cell? ⟨K,44,none⟩ = some (.slice none 0 0) := H4.out.ba.nn 44 (by unfold Emp;omega)
   refine (flightsGrow_0 K J4 (q : Int) _ n_flights).mono ?_
   rintro e wx ⟨rfl,hwx⟩
   rw [hwx]
   clear hwx wx n_flights
   go_wp2_with fail
   refine (KO.out q G.o _ hlt H4.out.ho H4.out.ba HG.out.o H4.out.bw).mono ?_
   rintro e w5 ⟨rfl,k5,hk5,hw5,hfr5⟩
   have H5 := Lib.hid (H4.out.setO hk5 hfr5)
   have HW5 := Lib.hid hw5
   have HF5 := Lib.hid (HF4.out.trans hfr5.fro)
   clear hk5 hw5 hfr5
   go_wp2_with fail
   have n_events : w5.cell? ⟨K,50,none⟩ = some (.slice none 0 0) := H5.out.ba.nn 50 (by unfold Emp;omega)
   refine (eventsGrow_0 K J5 (q : Int) _ n_events).mono ?_
   rintro e wx ⟨rfl,hwx⟩
   rw [hwx]
   clear hwx wx n_events
   go_wp2
   go_roundw
   case rel => exact ⟨q + 1,⟨k1,k2,k3,k4,k5⟩,by omega,by go_num,Lib.hid H5.out,Lib.hid ⟨HW1.out,HW2.out,HW3.out,HW4.out,HW5.out⟩,HF5⟩
   case measure => simp [intOf];omega
  ·obtain rfl : q = 70 := by omega
   go_wp2
   go_end0
   obtain ⟨g1,g2,g3,g4,g5⟩ := HG.out
   exact ⟨rfl,⟨G,HB.out,⟨g1.marked,g2.marked,g3.marked,g4.marked,g5.marked⟩,Low.mono (M := 2000070) ⟨g1.ns HLW.out.b,g2.ns HLW.out.l,g3.ns HLW.out.c,g4.ns HLW.out.f,g5.ns HLW.out.o⟩ (by omega)⟩,HF.out⟩
end Go.Proofs.YtpkmekdpmkfcdaaGreatDoor.Kb
