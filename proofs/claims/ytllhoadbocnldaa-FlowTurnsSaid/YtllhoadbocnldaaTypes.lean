/- The program's types and functions as tables, for the walk: closed facts, each out of the loaded program. -/
import Derived.Test.YtllhoadbocnldaaDraw
set_option linter.unusedVariables false
set_option linter.unusedSimpArgs false
set_option maxRecDepth 100000
namespace Go.Proofs.Ytllhoadbocnldaa
open Go.RowKit
def look {α : Type} : List (Nat × α) → Nat → Option α
  | [], _ => none
  | (a, b) :: r, n => bif Nat.beq a n then some b else look r n
theorem look_mem {α : Type} : ∀ {l : List (Nat × α)} {n : Nat} {x : α}, look l n = some x → (n, x) ∈ l
  | [], _, _, h => by cases h
  | (a, b) :: r, n, x, h => by
    unfold look at h
    cases e : Nat.beq a n with
    | true => rw [e] at h; injection h with h; subst h; rw [Nat.eq_of_beq_eq_true e]; exact List.mem_cons_self
    | false => rw [e] at h; exact List.mem_cons_of_mem _ (look_mem h)
def aggL : List (Nat × Bool) := [(0, false), (1, false), (2, false), (3, false), (4, false), (5, false), (6, false), (7, true), (8, true), (9, false), (10, false), (11, false), (12, false), (13, true), (14, true), (15, false), (16, false), (17, false), (18, true), (19, true), (20, false), (21, false), (22, false), (23, true), (24, true), (25, false), (26, false), (27, false), (28, false), (29, true), (30, true), (31, false), (32, false), (33, false), (34, false), (35, false), (36, false), (37, false), (38, false), (39, false), (40, false), (41, false), (42, true), (43, true), (44, false), (45, true), (46, true), (47, true), (48, true), (49, true), (50, false), (51, false), (52, false), (53, false), (54, false), (55, false), (56, false), (57, false), (58, false), (59, true), (60, true), (61, false), (62, false), (63, false), (64, false), (65, false), (66, false), (67, true), (68, true), (69, false), (70, false), (71, false), (72, false), (73, false), (74, false), (75, false), (76, false), (77, false), (78, false), (79, false), (80, false), (81, false), (82, false), (83, false), (84, false), (85, false), (86, false), (87, false), (88, false), (89, false), (90, false), (91, true), (92, true), (93, true), (94, true), (95, true), (96, false), (97, false), (98, false), (99, false), (100, false), (101, false), (102, true), (103, true), (104, false)]
set_option maxRecDepth 100000 in
theorem aggAll : ∀ x ∈ aggL, ∀ w, (isAgg x.1).run Try.prog w = .ok x.2 w :=
  (List.forall_mem_cons.2 ⟨Try.isAgg0, (List.forall_mem_cons.2 ⟨Try.isAgg1, (List.forall_mem_cons.2 ⟨Try.isAgg2, (List.forall_mem_cons.2 ⟨Try.isAgg3, (List.forall_mem_cons.2 ⟨Try.isAgg4, (List.forall_mem_cons.2 ⟨Try.isAgg5, (List.forall_mem_cons.2 ⟨Try.isAgg6, (List.forall_mem_cons.2 ⟨Try.isAgg7, (List.forall_mem_cons.2 ⟨Try.isAgg8, (List.forall_mem_cons.2 ⟨Try.isAgg9, (List.forall_mem_cons.2 ⟨Try.isAgg10, (List.forall_mem_cons.2 ⟨Try.isAgg11, (List.forall_mem_cons.2 ⟨Try.isAgg12, (List.forall_mem_cons.2 ⟨Try.isAgg13, (List.forall_mem_cons.2 ⟨Try.isAgg14, (List.forall_mem_cons.2 ⟨Try.isAgg15, (List.forall_mem_cons.2 ⟨Try.isAgg16, (List.forall_mem_cons.2 ⟨Try.isAgg17, (List.forall_mem_cons.2 ⟨Try.isAgg18, (List.forall_mem_cons.2 ⟨Try.isAgg19, (List.forall_mem_cons.2 ⟨Try.isAgg20, (List.forall_mem_cons.2 ⟨Try.isAgg21, (List.forall_mem_cons.2 ⟨Try.isAgg22, (List.forall_mem_cons.2 ⟨Try.isAgg23, (List.forall_mem_cons.2 ⟨Try.isAgg24, (List.forall_mem_cons.2 ⟨Try.isAgg25, (List.forall_mem_cons.2 ⟨Try.isAgg26, (List.forall_mem_cons.2 ⟨Try.isAgg27, (List.forall_mem_cons.2 ⟨Try.isAgg28, (List.forall_mem_cons.2 ⟨Try.isAgg29, (List.forall_mem_cons.2 ⟨Try.isAgg30, (List.forall_mem_cons.2 ⟨Try.isAgg31, (List.forall_mem_cons.2 ⟨Try.isAgg32, (List.forall_mem_cons.2 ⟨Try.isAgg33, (List.forall_mem_cons.2 ⟨Try.isAgg34, (List.forall_mem_cons.2 ⟨Try.isAgg35, (List.forall_mem_cons.2 ⟨Try.isAgg36, (List.forall_mem_cons.2 ⟨Try.isAgg37, (List.forall_mem_cons.2 ⟨Try.isAgg38, (List.forall_mem_cons.2 ⟨Try.isAgg39, (List.forall_mem_cons.2 ⟨Try.isAgg40, (List.forall_mem_cons.2 ⟨Try.isAgg41, (List.forall_mem_cons.2 ⟨Try.isAgg42, (List.forall_mem_cons.2 ⟨Try.isAgg43, (List.forall_mem_cons.2 ⟨Try.isAgg44, (List.forall_mem_cons.2 ⟨Try.isAgg45, (List.forall_mem_cons.2 ⟨Try.isAgg46, (List.forall_mem_cons.2 ⟨Try.isAgg47, (List.forall_mem_cons.2 ⟨Try.isAgg48, (List.forall_mem_cons.2 ⟨Try.isAgg49, (List.forall_mem_cons.2 ⟨Try.isAgg50, (List.forall_mem_cons.2 ⟨Try.isAgg51, (List.forall_mem_cons.2 ⟨Try.isAgg52, (List.forall_mem_cons.2 ⟨Try.isAgg53, (List.forall_mem_cons.2 ⟨Try.isAgg54, (List.forall_mem_cons.2 ⟨Try.isAgg55, (List.forall_mem_cons.2 ⟨Try.isAgg56, (List.forall_mem_cons.2 ⟨Try.isAgg57, (List.forall_mem_cons.2 ⟨Try.isAgg58, (List.forall_mem_cons.2 ⟨Try.isAgg59, (List.forall_mem_cons.2 ⟨Try.isAgg60, (List.forall_mem_cons.2 ⟨Try.isAgg61, (List.forall_mem_cons.2 ⟨Try.isAgg62, (List.forall_mem_cons.2 ⟨Try.isAgg63, (List.forall_mem_cons.2 ⟨Try.isAgg64, (List.forall_mem_cons.2 ⟨Try.isAgg65, (List.forall_mem_cons.2 ⟨Try.isAgg66, (List.forall_mem_cons.2 ⟨Try.isAgg67, (List.forall_mem_cons.2 ⟨Try.isAgg68, (List.forall_mem_cons.2 ⟨Try.isAgg69, (List.forall_mem_cons.2 ⟨Try.isAgg70, (List.forall_mem_cons.2 ⟨Try.isAgg71, (List.forall_mem_cons.2 ⟨Try.isAgg72, (List.forall_mem_cons.2 ⟨Try.isAgg73, (List.forall_mem_cons.2 ⟨Try.isAgg74, (List.forall_mem_cons.2 ⟨Try.isAgg75, (List.forall_mem_cons.2 ⟨Try.isAgg76, (List.forall_mem_cons.2 ⟨Try.isAgg77, (List.forall_mem_cons.2 ⟨Try.isAgg78, (List.forall_mem_cons.2 ⟨Try.isAgg79, (List.forall_mem_cons.2 ⟨Try.isAgg80, (List.forall_mem_cons.2 ⟨Try.isAgg81, (List.forall_mem_cons.2 ⟨Try.isAgg82, (List.forall_mem_cons.2 ⟨Try.isAgg83, (List.forall_mem_cons.2 ⟨Try.isAgg84, (List.forall_mem_cons.2 ⟨Try.isAgg85, (List.forall_mem_cons.2 ⟨Try.isAgg86, (List.forall_mem_cons.2 ⟨Try.isAgg87, (List.forall_mem_cons.2 ⟨Try.isAgg88, (List.forall_mem_cons.2 ⟨Try.isAgg89, (List.forall_mem_cons.2 ⟨Try.isAgg90, (List.forall_mem_cons.2 ⟨Try.isAgg91, (List.forall_mem_cons.2 ⟨Try.isAgg92, (List.forall_mem_cons.2 ⟨Try.isAgg93, (List.forall_mem_cons.2 ⟨Try.isAgg94, (List.forall_mem_cons.2 ⟨Try.isAgg95, (List.forall_mem_cons.2 ⟨Try.isAgg96, (List.forall_mem_cons.2 ⟨Try.isAgg97, (List.forall_mem_cons.2 ⟨Try.isAgg98, (List.forall_mem_cons.2 ⟨Try.isAgg99, (List.forall_mem_cons.2 ⟨Try.isAgg100, (List.forall_mem_cons.2 ⟨Try.isAgg101, (List.forall_mem_cons.2 ⟨Try.isAgg102, (List.forall_mem_cons.2 ⟨Try.isAgg103, (List.forall_mem_cons.2 ⟨Try.isAgg104, (List.forall_mem_nil _)⟩)⟩)⟩)⟩)⟩)⟩)⟩)⟩)⟩)⟩)⟩)⟩)⟩)⟩)⟩)⟩)⟩)⟩)⟩)⟩)⟩)⟩)⟩)⟩)⟩)⟩)⟩)⟩)⟩)⟩)⟩)⟩)⟩)⟩)⟩)⟩)⟩)⟩)⟩)⟩)⟩)⟩)⟩)⟩)⟩)⟩)⟩)⟩)⟩)⟩)⟩)⟩)⟩)⟩)⟩)⟩)⟩)⟩)⟩)⟩)⟩)⟩)⟩)⟩)⟩)⟩)⟩)⟩)⟩)⟩)⟩)⟩)⟩)⟩)⟩)⟩)⟩)⟩)⟩)⟩)⟩)⟩)⟩)⟩)⟩)⟩)⟩)⟩)⟩)⟩)⟩)⟩)⟩)⟩)⟩)⟩)⟩)⟩)⟩)⟩)⟩)⟩)⟩)⟩)⟩)
def sizL : List (Nat × Nat) := [(0, 1), (1, 1), (2, 1), (3, 1), (4, 1), (5, 1), (6, 1), (7, 4), (8, 4), (9, 1), (10, 1), (11, 1), (12, 1), (13, 2), (14, 2), (15, 1), (16, 1), (17, 1), (18, 1), (19, 1), (20, 1), (21, 1), (22, 1), (23, 5), (24, 5), (25, 1), (26, 1), (27, 1), (28, 1), (29, 9), (30, 9), (31, 1), (32, 1), (33, 1), (34, 1), (35, 1), (36, 1), (37, 1), (38, 1), (39, 1), (40, 1), (41, 1), (42, 12), (43, 12), (44, 1), (45, 2), (46, 3), (47, 3), (48, 10), (49, 10), (50, 1), (51, 1), (52, 1), (53, 1), (54, 1), (55, 1), (56, 1), (57, 1), (58, 1), (59, 7), (60, 7), (61, 1), (62, 1), (63, 1), (64, 1), (65, 1), (66, 1), (67, 2), (68, 2), (69, 1), (70, 1), (71, 1), (72, 1), (73, 1), (74, 1), (75, 1), (76, 1), (77, 1), (78, 1), (79, 1), (80, 1), (81, 1), (82, 1), (83, 1), (84, 1), (85, 1), (86, 1), (87, 1), (88, 1), (89, 1), (90, 1), (91, 4), (92, 4), (93, 0), (94, 0), (95, 0), (96, 1), (97, 1), (98, 1), (99, 1), (100, 1), (101, 1), (102, 11), (103, 11), (104, 1)]
set_option maxRecDepth 100000 in
theorem sizAll : ∀ x ∈ sizL, ∀ w, (sizeOf x.1).run Try.prog w = .ok x.2 w :=
  (List.forall_mem_cons.2 ⟨Try.sizeOf0, (List.forall_mem_cons.2 ⟨Try.sizeOf1, (List.forall_mem_cons.2 ⟨Try.sizeOf2, (List.forall_mem_cons.2 ⟨Try.sizeOf3, (List.forall_mem_cons.2 ⟨Try.sizeOf4, (List.forall_mem_cons.2 ⟨Try.sizeOf5, (List.forall_mem_cons.2 ⟨Try.sizeOf6, (List.forall_mem_cons.2 ⟨Try.sizeOf7, (List.forall_mem_cons.2 ⟨Try.sizeOf8, (List.forall_mem_cons.2 ⟨Try.sizeOf9, (List.forall_mem_cons.2 ⟨Try.sizeOf10, (List.forall_mem_cons.2 ⟨Try.sizeOf11, (List.forall_mem_cons.2 ⟨Try.sizeOf12, (List.forall_mem_cons.2 ⟨Try.sizeOf13, (List.forall_mem_cons.2 ⟨Try.sizeOf14, (List.forall_mem_cons.2 ⟨Try.sizeOf15, (List.forall_mem_cons.2 ⟨Try.sizeOf16, (List.forall_mem_cons.2 ⟨Try.sizeOf17, (List.forall_mem_cons.2 ⟨Try.sizeOf18, (List.forall_mem_cons.2 ⟨Try.sizeOf19, (List.forall_mem_cons.2 ⟨Try.sizeOf20, (List.forall_mem_cons.2 ⟨Try.sizeOf21, (List.forall_mem_cons.2 ⟨Try.sizeOf22, (List.forall_mem_cons.2 ⟨Try.sizeOf23, (List.forall_mem_cons.2 ⟨Try.sizeOf24, (List.forall_mem_cons.2 ⟨Try.sizeOf25, (List.forall_mem_cons.2 ⟨Try.sizeOf26, (List.forall_mem_cons.2 ⟨Try.sizeOf27, (List.forall_mem_cons.2 ⟨Try.sizeOf28, (List.forall_mem_cons.2 ⟨Try.sizeOf29, (List.forall_mem_cons.2 ⟨Try.sizeOf30, (List.forall_mem_cons.2 ⟨Try.sizeOf31, (List.forall_mem_cons.2 ⟨Try.sizeOf32, (List.forall_mem_cons.2 ⟨Try.sizeOf33, (List.forall_mem_cons.2 ⟨Try.sizeOf34, (List.forall_mem_cons.2 ⟨Try.sizeOf35, (List.forall_mem_cons.2 ⟨Try.sizeOf36, (List.forall_mem_cons.2 ⟨Try.sizeOf37, (List.forall_mem_cons.2 ⟨Try.sizeOf38, (List.forall_mem_cons.2 ⟨Try.sizeOf39, (List.forall_mem_cons.2 ⟨Try.sizeOf40, (List.forall_mem_cons.2 ⟨Try.sizeOf41, (List.forall_mem_cons.2 ⟨Try.sizeOf42, (List.forall_mem_cons.2 ⟨Try.sizeOf43, (List.forall_mem_cons.2 ⟨Try.sizeOf44, (List.forall_mem_cons.2 ⟨Try.sizeOf45, (List.forall_mem_cons.2 ⟨Try.sizeOf46, (List.forall_mem_cons.2 ⟨Try.sizeOf47, (List.forall_mem_cons.2 ⟨Try.sizeOf48, (List.forall_mem_cons.2 ⟨Try.sizeOf49, (List.forall_mem_cons.2 ⟨Try.sizeOf50, (List.forall_mem_cons.2 ⟨Try.sizeOf51, (List.forall_mem_cons.2 ⟨Try.sizeOf52, (List.forall_mem_cons.2 ⟨Try.sizeOf53, (List.forall_mem_cons.2 ⟨Try.sizeOf54, (List.forall_mem_cons.2 ⟨Try.sizeOf55, (List.forall_mem_cons.2 ⟨Try.sizeOf56, (List.forall_mem_cons.2 ⟨Try.sizeOf57, (List.forall_mem_cons.2 ⟨Try.sizeOf58, (List.forall_mem_cons.2 ⟨Try.sizeOf59, (List.forall_mem_cons.2 ⟨Try.sizeOf60, (List.forall_mem_cons.2 ⟨Try.sizeOf61, (List.forall_mem_cons.2 ⟨Try.sizeOf62, (List.forall_mem_cons.2 ⟨Try.sizeOf63, (List.forall_mem_cons.2 ⟨Try.sizeOf64, (List.forall_mem_cons.2 ⟨Try.sizeOf65, (List.forall_mem_cons.2 ⟨Try.sizeOf66, (List.forall_mem_cons.2 ⟨Try.sizeOf67, (List.forall_mem_cons.2 ⟨Try.sizeOf68, (List.forall_mem_cons.2 ⟨Try.sizeOf69, (List.forall_mem_cons.2 ⟨Try.sizeOf70, (List.forall_mem_cons.2 ⟨Try.sizeOf71, (List.forall_mem_cons.2 ⟨Try.sizeOf72, (List.forall_mem_cons.2 ⟨Try.sizeOf73, (List.forall_mem_cons.2 ⟨Try.sizeOf74, (List.forall_mem_cons.2 ⟨Try.sizeOf75, (List.forall_mem_cons.2 ⟨Try.sizeOf76, (List.forall_mem_cons.2 ⟨Try.sizeOf77, (List.forall_mem_cons.2 ⟨Try.sizeOf78, (List.forall_mem_cons.2 ⟨Try.sizeOf79, (List.forall_mem_cons.2 ⟨Try.sizeOf80, (List.forall_mem_cons.2 ⟨Try.sizeOf81, (List.forall_mem_cons.2 ⟨Try.sizeOf82, (List.forall_mem_cons.2 ⟨Try.sizeOf83, (List.forall_mem_cons.2 ⟨Try.sizeOf84, (List.forall_mem_cons.2 ⟨Try.sizeOf85, (List.forall_mem_cons.2 ⟨Try.sizeOf86, (List.forall_mem_cons.2 ⟨Try.sizeOf87, (List.forall_mem_cons.2 ⟨Try.sizeOf88, (List.forall_mem_cons.2 ⟨Try.sizeOf89, (List.forall_mem_cons.2 ⟨Try.sizeOf90, (List.forall_mem_cons.2 ⟨Try.sizeOf91, (List.forall_mem_cons.2 ⟨Try.sizeOf92, (List.forall_mem_cons.2 ⟨Try.sizeOf93, (List.forall_mem_cons.2 ⟨Try.sizeOf94, (List.forall_mem_cons.2 ⟨Try.sizeOf95, (List.forall_mem_cons.2 ⟨Try.sizeOf96, (List.forall_mem_cons.2 ⟨Try.sizeOf97, (List.forall_mem_cons.2 ⟨Try.sizeOf98, (List.forall_mem_cons.2 ⟨Try.sizeOf99, (List.forall_mem_cons.2 ⟨Try.sizeOf100, (List.forall_mem_cons.2 ⟨Try.sizeOf101, (List.forall_mem_cons.2 ⟨Try.sizeOf102, (List.forall_mem_cons.2 ⟨Try.sizeOf103, (List.forall_mem_cons.2 ⟨Try.sizeOf104, (List.forall_mem_nil _)⟩)⟩)⟩)⟩)⟩)⟩)⟩)⟩)⟩)⟩)⟩)⟩)⟩)⟩)⟩)⟩)⟩)⟩)⟩)⟩)⟩)⟩)⟩)⟩)⟩)⟩)⟩)⟩)⟩)⟩)⟩)⟩)⟩)⟩)⟩)⟩)⟩)⟩)⟩)⟩)⟩)⟩)⟩)⟩)⟩)⟩)⟩)⟩)⟩)⟩)⟩)⟩)⟩)⟩)⟩)⟩)⟩)⟩)⟩)⟩)⟩)⟩)⟩)⟩)⟩)⟩)⟩)⟩)⟩)⟩)⟩)⟩)⟩)⟩)⟩)⟩)⟩)⟩)⟩)⟩)⟩)⟩)⟩)⟩)⟩)⟩)⟩)⟩)⟩)⟩)⟩)⟩)⟩)⟩)⟩)⟩)⟩)⟩)⟩)⟩)⟩)⟩)⟩)⟩)⟩)
def calL : List (Nat × Unit) := [(2, ()), (3, ()), (4, ()), (5, ()), (6, ()), (7, ()), (8, ()), (9, ()), (10, ()), (11, ()), (12, ()), (13, ()), (14, ()), (15, ()), (16, ()), (17, ()), (18, ()), (19, ()), (20, ()), (21, ()), (22, ()), (23, ()), (24, ()), (25, ()), (26, ()), (27, ()), (28, ()), (29, ()), (30, ()), (31, ()), (32, ()), (33, ()), (34, ()), (35, ()), (36, ()), (37, ()), (38, ()), (39, ()), (40, ()), (41, ()), (42, ()), (43, ()), (44, ()), (45, ()), (46, ()), (47, ()), (48, ())]
set_option maxRecDepth 100000 in
theorem calAll : ∀ x ∈ calL, ∀ args w, (callFunc x.1 args).run Try.prog w = .ok (.enter x.1 args) w :=
  (List.forall_mem_cons.2 ⟨Try.call2, (List.forall_mem_cons.2 ⟨Try.call3, (List.forall_mem_cons.2 ⟨Try.call4, (List.forall_mem_cons.2 ⟨Try.call5, (List.forall_mem_cons.2 ⟨Try.call6, (List.forall_mem_cons.2 ⟨Try.call7, (List.forall_mem_cons.2 ⟨Try.call8, (List.forall_mem_cons.2 ⟨Try.call9, (List.forall_mem_cons.2 ⟨Try.call10, (List.forall_mem_cons.2 ⟨Try.call11, (List.forall_mem_cons.2 ⟨Try.call12, (List.forall_mem_cons.2 ⟨Try.call13, (List.forall_mem_cons.2 ⟨Try.call14, (List.forall_mem_cons.2 ⟨Try.call15, (List.forall_mem_cons.2 ⟨Try.call16, (List.forall_mem_cons.2 ⟨Try.call17, (List.forall_mem_cons.2 ⟨Try.call18, (List.forall_mem_cons.2 ⟨Try.call19, (List.forall_mem_cons.2 ⟨Try.call20, (List.forall_mem_cons.2 ⟨Try.call21, (List.forall_mem_cons.2 ⟨Try.call22, (List.forall_mem_cons.2 ⟨Try.call23, (List.forall_mem_cons.2 ⟨Try.call24, (List.forall_mem_cons.2 ⟨Try.call25, (List.forall_mem_cons.2 ⟨Try.call26, (List.forall_mem_cons.2 ⟨Try.call27, (List.forall_mem_cons.2 ⟨Try.call28, (List.forall_mem_cons.2 ⟨Try.call29, (List.forall_mem_cons.2 ⟨Try.call30, (List.forall_mem_cons.2 ⟨Try.call31, (List.forall_mem_cons.2 ⟨Try.call32, (List.forall_mem_cons.2 ⟨Try.call33, (List.forall_mem_cons.2 ⟨Try.call34, (List.forall_mem_cons.2 ⟨Try.call35, (List.forall_mem_cons.2 ⟨Try.call36, (List.forall_mem_cons.2 ⟨Try.call37, (List.forall_mem_cons.2 ⟨Try.call38, (List.forall_mem_cons.2 ⟨Try.call39, (List.forall_mem_cons.2 ⟨Try.call40, (List.forall_mem_cons.2 ⟨Try.call41, (List.forall_mem_cons.2 ⟨Try.call42, (List.forall_mem_cons.2 ⟨Try.call43, (List.forall_mem_cons.2 ⟨Try.call44, (List.forall_mem_cons.2 ⟨Try.call45, (List.forall_mem_cons.2 ⟨Try.call46, (List.forall_mem_cons.2 ⟨Try.call47, (List.forall_mem_cons.2 ⟨Try.call48, (List.forall_mem_nil _)⟩)⟩)⟩)⟩)⟩)⟩)⟩)⟩)⟩)⟩)⟩)⟩)⟩)⟩)⟩)⟩)⟩)⟩)⟩)⟩)⟩)⟩)⟩)⟩)⟩)⟩)⟩)⟩)⟩)⟩)⟩)⟩)⟩)⟩)⟩)⟩)⟩)⟩)⟩)⟩)⟩)⟩)⟩)⟩)⟩)⟩)⟩)
theorem fld_7_0 (n o : Nat) (w : World) : (Instr.fieldAt 7 (.pointer (some ⟨n, o, none⟩)) 0).run Try.prog w = .ok (.pointer (some ⟨n, o + 0, none⟩)) w := by
  simp [Instr.fieldAt, go_sem, add_none]
theorem fld_7_1 (n o : Nat) (w : World) : (Instr.fieldAt 7 (.pointer (some ⟨n, o, none⟩)) 1).run Try.prog w = .ok (.pointer (some ⟨n, o + 1, none⟩)) w := by
  simp [Instr.fieldAt, go_sem, add_none]
theorem fld_7_2 (n o : Nat) (w : World) : (Instr.fieldAt 7 (.pointer (some ⟨n, o, none⟩)) 2).run Try.prog w = .ok (.pointer (some ⟨n, o + 2, none⟩)) w := by
  simp [Instr.fieldAt, go_sem, add_none]
theorem fld_7_3 (n o : Nat) (w : World) : (Instr.fieldAt 7 (.pointer (some ⟨n, o, none⟩)) 3).run Try.prog w = .ok (.pointer (some ⟨n, o + 3, none⟩)) w := by
  simp [Instr.fieldAt, go_sem, add_none]
theorem fld_7 : ∀ (k off : Nat), ([some 0, some 1, some 2, some 3] : List (Option Nat))[k]? = some (some off) → ∀ (n o : Nat) (w : World), (Instr.fieldAt 7 (.pointer (some ⟨n, o, none⟩)) k).run Try.prog w = .ok (.pointer (some ⟨n, o + off, none⟩)) w
  | 0, _, h => by simp at h; subst h; exact fld_7_0
  | 1, _, h => by simp at h; subst h; exact fld_7_1
  | 2, _, h => by simp at h; subst h; exact fld_7_2
  | 3, _, h => by simp at h; subst h; exact fld_7_3
  | k + 4, _, h => by simp at h
theorem fld_8_0 (n o : Nat) (w : World) : (Instr.fieldAt 8 (.pointer (some ⟨n, o, none⟩)) 0).run Try.prog w = .ok (.pointer (some ⟨n, o + 0, none⟩)) w := by
  simp [Instr.fieldAt, go_sem, add_none]
theorem fld_8_1 (n o : Nat) (w : World) : (Instr.fieldAt 8 (.pointer (some ⟨n, o, none⟩)) 1).run Try.prog w = .ok (.pointer (some ⟨n, o + 1, none⟩)) w := by
  simp [Instr.fieldAt, go_sem, add_none]
theorem fld_8_2 (n o : Nat) (w : World) : (Instr.fieldAt 8 (.pointer (some ⟨n, o, none⟩)) 2).run Try.prog w = .ok (.pointer (some ⟨n, o + 2, none⟩)) w := by
  simp [Instr.fieldAt, go_sem, add_none]
theorem fld_8_3 (n o : Nat) (w : World) : (Instr.fieldAt 8 (.pointer (some ⟨n, o, none⟩)) 3).run Try.prog w = .ok (.pointer (some ⟨n, o + 3, none⟩)) w := by
  simp [Instr.fieldAt, go_sem, add_none]
theorem fld_8 : ∀ (k off : Nat), ([some 0, some 1, some 2, some 3] : List (Option Nat))[k]? = some (some off) → ∀ (n o : Nat) (w : World), (Instr.fieldAt 8 (.pointer (some ⟨n, o, none⟩)) k).run Try.prog w = .ok (.pointer (some ⟨n, o + off, none⟩)) w
  | 0, _, h => by simp at h; subst h; exact fld_8_0
  | 1, _, h => by simp at h; subst h; exact fld_8_1
  | 2, _, h => by simp at h; subst h; exact fld_8_2
  | 3, _, h => by simp at h; subst h; exact fld_8_3
  | k + 4, _, h => by simp at h
theorem fld_13_0 (n o : Nat) (w : World) : (Instr.fieldAt 13 (.pointer (some ⟨n, o, none⟩)) 0).run Try.prog w = .ok (.pointer (some ⟨n, o + 0, none⟩)) w := by
  simp [Instr.fieldAt, go_sem, add_none]
theorem fld_13_1 (n o : Nat) (w : World) : (Instr.fieldAt 13 (.pointer (some ⟨n, o, none⟩)) 1).run Try.prog w = .ok (.pointer (some ⟨n, o + 1, none⟩)) w := by
  simp [Instr.fieldAt, go_sem, add_none]
theorem fld_13 : ∀ (k off : Nat), ([some 0, some 1] : List (Option Nat))[k]? = some (some off) → ∀ (n o : Nat) (w : World), (Instr.fieldAt 13 (.pointer (some ⟨n, o, none⟩)) k).run Try.prog w = .ok (.pointer (some ⟨n, o + off, none⟩)) w
  | 0, _, h => by simp at h; subst h; exact fld_13_0
  | 1, _, h => by simp at h; subst h; exact fld_13_1
  | k + 2, _, h => by simp at h
theorem fld_14_0 (n o : Nat) (w : World) : (Instr.fieldAt 14 (.pointer (some ⟨n, o, none⟩)) 0).run Try.prog w = .ok (.pointer (some ⟨n, o + 0, none⟩)) w := by
  simp [Instr.fieldAt, go_sem, add_none]
theorem fld_14_1 (n o : Nat) (w : World) : (Instr.fieldAt 14 (.pointer (some ⟨n, o, none⟩)) 1).run Try.prog w = .ok (.pointer (some ⟨n, o + 1, none⟩)) w := by
  simp [Instr.fieldAt, go_sem, add_none]
theorem fld_14 : ∀ (k off : Nat), ([some 0, some 1] : List (Option Nat))[k]? = some (some off) → ∀ (n o : Nat) (w : World), (Instr.fieldAt 14 (.pointer (some ⟨n, o, none⟩)) k).run Try.prog w = .ok (.pointer (some ⟨n, o + off, none⟩)) w
  | 0, _, h => by simp at h; subst h; exact fld_14_0
  | 1, _, h => by simp at h; subst h; exact fld_14_1
  | k + 2, _, h => by simp at h
theorem fld_18_0 (n o : Nat) (w : World) : (Instr.fieldAt 18 (.pointer (some ⟨n, o, none⟩)) 0).run Try.prog w = .ok (.pointer (some ⟨n, o + 0, none⟩)) w := by
  simp [Instr.fieldAt, go_sem, add_none]
theorem fld_18 : ∀ (k off : Nat), ([some 0] : List (Option Nat))[k]? = some (some off) → ∀ (n o : Nat) (w : World), (Instr.fieldAt 18 (.pointer (some ⟨n, o, none⟩)) k).run Try.prog w = .ok (.pointer (some ⟨n, o + off, none⟩)) w
  | 0, _, h => by simp at h; subst h; exact fld_18_0
  | k + 1, _, h => by simp at h
theorem fld_19_0 (n o : Nat) (w : World) : (Instr.fieldAt 19 (.pointer (some ⟨n, o, none⟩)) 0).run Try.prog w = .ok (.pointer (some ⟨n, o + 0, none⟩)) w := by
  simp [Instr.fieldAt, go_sem, add_none]
theorem fld_19 : ∀ (k off : Nat), ([some 0] : List (Option Nat))[k]? = some (some off) → ∀ (n o : Nat) (w : World), (Instr.fieldAt 19 (.pointer (some ⟨n, o, none⟩)) k).run Try.prog w = .ok (.pointer (some ⟨n, o + off, none⟩)) w
  | 0, _, h => by simp at h; subst h; exact fld_19_0
  | k + 1, _, h => by simp at h
theorem fld_23_0 (n o : Nat) (w : World) : (Instr.fieldAt 23 (.pointer (some ⟨n, o, none⟩)) 0).run Try.prog w = .ok (.pointer (some ⟨n, o + 0, none⟩)) w := by
  simp [Instr.fieldAt, go_sem, add_none]
theorem fld_23_1 (n o : Nat) (w : World) : (Instr.fieldAt 23 (.pointer (some ⟨n, o, none⟩)) 1).run Try.prog w = .ok (.pointer (some ⟨n, o + 1, none⟩)) w := by
  simp [Instr.fieldAt, go_sem, add_none]
theorem fld_23_2 (n o : Nat) (w : World) : (Instr.fieldAt 23 (.pointer (some ⟨n, o, none⟩)) 2).run Try.prog w = .ok (.pointer (some ⟨n, o + 2, none⟩)) w := by
  simp [Instr.fieldAt, go_sem, add_none]
theorem fld_23_3 (n o : Nat) (w : World) : (Instr.fieldAt 23 (.pointer (some ⟨n, o, none⟩)) 3).run Try.prog w = .ok (.pointer (some ⟨n, o + 3, none⟩)) w := by
  simp [Instr.fieldAt, go_sem, add_none]
theorem fld_23_4 (n o : Nat) (w : World) : (Instr.fieldAt 23 (.pointer (some ⟨n, o, none⟩)) 4).run Try.prog w = .ok (.pointer (some ⟨n, o + 4, none⟩)) w := by
  simp [Instr.fieldAt, go_sem, add_none]
theorem fld_23 : ∀ (k off : Nat), ([some 0, some 1, some 2, some 3, some 4] : List (Option Nat))[k]? = some (some off) → ∀ (n o : Nat) (w : World), (Instr.fieldAt 23 (.pointer (some ⟨n, o, none⟩)) k).run Try.prog w = .ok (.pointer (some ⟨n, o + off, none⟩)) w
  | 0, _, h => by simp at h; subst h; exact fld_23_0
  | 1, _, h => by simp at h; subst h; exact fld_23_1
  | 2, _, h => by simp at h; subst h; exact fld_23_2
  | 3, _, h => by simp at h; subst h; exact fld_23_3
  | 4, _, h => by simp at h; subst h; exact fld_23_4
  | k + 5, _, h => by simp at h
theorem fld_24_0 (n o : Nat) (w : World) : (Instr.fieldAt 24 (.pointer (some ⟨n, o, none⟩)) 0).run Try.prog w = .ok (.pointer (some ⟨n, o + 0, none⟩)) w := by
  simp [Instr.fieldAt, go_sem, add_none]
theorem fld_24_1 (n o : Nat) (w : World) : (Instr.fieldAt 24 (.pointer (some ⟨n, o, none⟩)) 1).run Try.prog w = .ok (.pointer (some ⟨n, o + 1, none⟩)) w := by
  simp [Instr.fieldAt, go_sem, add_none]
theorem fld_24_2 (n o : Nat) (w : World) : (Instr.fieldAt 24 (.pointer (some ⟨n, o, none⟩)) 2).run Try.prog w = .ok (.pointer (some ⟨n, o + 2, none⟩)) w := by
  simp [Instr.fieldAt, go_sem, add_none]
theorem fld_24_3 (n o : Nat) (w : World) : (Instr.fieldAt 24 (.pointer (some ⟨n, o, none⟩)) 3).run Try.prog w = .ok (.pointer (some ⟨n, o + 3, none⟩)) w := by
  simp [Instr.fieldAt, go_sem, add_none]
theorem fld_24_4 (n o : Nat) (w : World) : (Instr.fieldAt 24 (.pointer (some ⟨n, o, none⟩)) 4).run Try.prog w = .ok (.pointer (some ⟨n, o + 4, none⟩)) w := by
  simp [Instr.fieldAt, go_sem, add_none]
theorem fld_24 : ∀ (k off : Nat), ([some 0, some 1, some 2, some 3, some 4] : List (Option Nat))[k]? = some (some off) → ∀ (n o : Nat) (w : World), (Instr.fieldAt 24 (.pointer (some ⟨n, o, none⟩)) k).run Try.prog w = .ok (.pointer (some ⟨n, o + off, none⟩)) w
  | 0, _, h => by simp at h; subst h; exact fld_24_0
  | 1, _, h => by simp at h; subst h; exact fld_24_1
  | 2, _, h => by simp at h; subst h; exact fld_24_2
  | 3, _, h => by simp at h; subst h; exact fld_24_3
  | 4, _, h => by simp at h; subst h; exact fld_24_4
  | k + 5, _, h => by simp at h
theorem fld_29_0 (n o : Nat) (w : World) : (Instr.fieldAt 29 (.pointer (some ⟨n, o, none⟩)) 0).run Try.prog w = .ok (.pointer (some ⟨n, o + 0, none⟩)) w := by
  simp [Instr.fieldAt, go_sem, add_none]
theorem fld_29_1 (n o : Nat) (w : World) : (Instr.fieldAt 29 (.pointer (some ⟨n, o, none⟩)) 1).run Try.prog w = .ok (.pointer (some ⟨n, o + 1, none⟩)) w := by
  simp [Instr.fieldAt, go_sem, add_none]
theorem fld_29_2 (n o : Nat) (w : World) : (Instr.fieldAt 29 (.pointer (some ⟨n, o, none⟩)) 2).run Try.prog w = .ok (.pointer (some ⟨n, o + 2, none⟩)) w := by
  simp [Instr.fieldAt, go_sem, add_none]
theorem fld_29_3 (n o : Nat) (w : World) : (Instr.fieldAt 29 (.pointer (some ⟨n, o, none⟩)) 3).run Try.prog w = .ok (.pointer (some ⟨n, o + 3, none⟩)) w := by
  simp [Instr.fieldAt, go_sem, add_none]
theorem fld_29_4 (n o : Nat) (w : World) : (Instr.fieldAt 29 (.pointer (some ⟨n, o, none⟩)) 4).run Try.prog w = .ok (.pointer (some ⟨n, o + 4, none⟩)) w := by
  simp [Instr.fieldAt, go_sem, add_none]
theorem fld_29_5 (n o : Nat) (w : World) : (Instr.fieldAt 29 (.pointer (some ⟨n, o, none⟩)) 5).run Try.prog w = .ok (.pointer (some ⟨n, o + 5, none⟩)) w := by
  simp [Instr.fieldAt, go_sem, add_none]
theorem fld_29_6 (n o : Nat) (w : World) : (Instr.fieldAt 29 (.pointer (some ⟨n, o, none⟩)) 6).run Try.prog w = .ok (.pointer (some ⟨n, o + 6, none⟩)) w := by
  simp [Instr.fieldAt, go_sem, add_none]
theorem fld_29_7 (n o : Nat) (w : World) : (Instr.fieldAt 29 (.pointer (some ⟨n, o, none⟩)) 7).run Try.prog w = .ok (.pointer (some ⟨n, o + 7, none⟩)) w := by
  simp [Instr.fieldAt, go_sem, add_none]
theorem fld_29_8 (n o : Nat) (w : World) : (Instr.fieldAt 29 (.pointer (some ⟨n, o, none⟩)) 8).run Try.prog w = .ok (.pointer (some ⟨n, o + 8, none⟩)) w := by
  simp [Instr.fieldAt, go_sem, add_none]
theorem fld_29 : ∀ (k off : Nat), ([some 0, some 1, some 2, some 3, some 4, some 5, some 6, some 7, some 8] : List (Option Nat))[k]? = some (some off) → ∀ (n o : Nat) (w : World), (Instr.fieldAt 29 (.pointer (some ⟨n, o, none⟩)) k).run Try.prog w = .ok (.pointer (some ⟨n, o + off, none⟩)) w
  | 0, _, h => by simp at h; subst h; exact fld_29_0
  | 1, _, h => by simp at h; subst h; exact fld_29_1
  | 2, _, h => by simp at h; subst h; exact fld_29_2
  | 3, _, h => by simp at h; subst h; exact fld_29_3
  | 4, _, h => by simp at h; subst h; exact fld_29_4
  | 5, _, h => by simp at h; subst h; exact fld_29_5
  | 6, _, h => by simp at h; subst h; exact fld_29_6
  | 7, _, h => by simp at h; subst h; exact fld_29_7
  | 8, _, h => by simp at h; subst h; exact fld_29_8
  | k + 9, _, h => by simp at h
theorem fld_30_0 (n o : Nat) (w : World) : (Instr.fieldAt 30 (.pointer (some ⟨n, o, none⟩)) 0).run Try.prog w = .ok (.pointer (some ⟨n, o + 0, none⟩)) w := by
  simp [Instr.fieldAt, go_sem, add_none]
theorem fld_30_1 (n o : Nat) (w : World) : (Instr.fieldAt 30 (.pointer (some ⟨n, o, none⟩)) 1).run Try.prog w = .ok (.pointer (some ⟨n, o + 1, none⟩)) w := by
  simp [Instr.fieldAt, go_sem, add_none]
theorem fld_30_2 (n o : Nat) (w : World) : (Instr.fieldAt 30 (.pointer (some ⟨n, o, none⟩)) 2).run Try.prog w = .ok (.pointer (some ⟨n, o + 2, none⟩)) w := by
  simp [Instr.fieldAt, go_sem, add_none]
theorem fld_30_3 (n o : Nat) (w : World) : (Instr.fieldAt 30 (.pointer (some ⟨n, o, none⟩)) 3).run Try.prog w = .ok (.pointer (some ⟨n, o + 3, none⟩)) w := by
  simp [Instr.fieldAt, go_sem, add_none]
theorem fld_30_4 (n o : Nat) (w : World) : (Instr.fieldAt 30 (.pointer (some ⟨n, o, none⟩)) 4).run Try.prog w = .ok (.pointer (some ⟨n, o + 4, none⟩)) w := by
  simp [Instr.fieldAt, go_sem, add_none]
theorem fld_30_5 (n o : Nat) (w : World) : (Instr.fieldAt 30 (.pointer (some ⟨n, o, none⟩)) 5).run Try.prog w = .ok (.pointer (some ⟨n, o + 5, none⟩)) w := by
  simp [Instr.fieldAt, go_sem, add_none]
theorem fld_30_6 (n o : Nat) (w : World) : (Instr.fieldAt 30 (.pointer (some ⟨n, o, none⟩)) 6).run Try.prog w = .ok (.pointer (some ⟨n, o + 6, none⟩)) w := by
  simp [Instr.fieldAt, go_sem, add_none]
theorem fld_30_7 (n o : Nat) (w : World) : (Instr.fieldAt 30 (.pointer (some ⟨n, o, none⟩)) 7).run Try.prog w = .ok (.pointer (some ⟨n, o + 7, none⟩)) w := by
  simp [Instr.fieldAt, go_sem, add_none]
theorem fld_30_8 (n o : Nat) (w : World) : (Instr.fieldAt 30 (.pointer (some ⟨n, o, none⟩)) 8).run Try.prog w = .ok (.pointer (some ⟨n, o + 8, none⟩)) w := by
  simp [Instr.fieldAt, go_sem, add_none]
theorem fld_30 : ∀ (k off : Nat), ([some 0, some 1, some 2, some 3, some 4, some 5, some 6, some 7, some 8] : List (Option Nat))[k]? = some (some off) → ∀ (n o : Nat) (w : World), (Instr.fieldAt 30 (.pointer (some ⟨n, o, none⟩)) k).run Try.prog w = .ok (.pointer (some ⟨n, o + off, none⟩)) w
  | 0, _, h => by simp at h; subst h; exact fld_30_0
  | 1, _, h => by simp at h; subst h; exact fld_30_1
  | 2, _, h => by simp at h; subst h; exact fld_30_2
  | 3, _, h => by simp at h; subst h; exact fld_30_3
  | 4, _, h => by simp at h; subst h; exact fld_30_4
  | 5, _, h => by simp at h; subst h; exact fld_30_5
  | 6, _, h => by simp at h; subst h; exact fld_30_6
  | 7, _, h => by simp at h; subst h; exact fld_30_7
  | 8, _, h => by simp at h; subst h; exact fld_30_8
  | k + 9, _, h => by simp at h
theorem fld_42_0 (n o : Nat) (w : World) : (Instr.fieldAt 42 (.pointer (some ⟨n, o, none⟩)) 0).run Try.prog w = .ok (.pointer (some ⟨n, o + 0, none⟩)) w := by
  simp [Instr.fieldAt, go_sem, add_none]
theorem fld_42_1 (n o : Nat) (w : World) : (Instr.fieldAt 42 (.pointer (some ⟨n, o, none⟩)) 1).run Try.prog w = .ok (.pointer (some ⟨n, o + 9, none⟩)) w := by
  simp [Instr.fieldAt, go_sem, add_none]
theorem fld_42_2 (n o : Nat) (w : World) : (Instr.fieldAt 42 (.pointer (some ⟨n, o, none⟩)) 2).run Try.prog w = .ok (.pointer (some ⟨n, o + 10, none⟩)) w := by
  simp [Instr.fieldAt, go_sem, add_none]
theorem fld_42_3 (n o : Nat) (w : World) : (Instr.fieldAt 42 (.pointer (some ⟨n, o, none⟩)) 3).run Try.prog w = .ok (.pointer (some ⟨n, o + 11, none⟩)) w := by
  simp [Instr.fieldAt, go_sem, add_none]
theorem fld_42 : ∀ (k off : Nat), ([some 0, some 9, some 10, some 11] : List (Option Nat))[k]? = some (some off) → ∀ (n o : Nat) (w : World), (Instr.fieldAt 42 (.pointer (some ⟨n, o, none⟩)) k).run Try.prog w = .ok (.pointer (some ⟨n, o + off, none⟩)) w
  | 0, _, h => by simp at h; subst h; exact fld_42_0
  | 1, _, h => by simp at h; subst h; exact fld_42_1
  | 2, _, h => by simp at h; subst h; exact fld_42_2
  | 3, _, h => by simp at h; subst h; exact fld_42_3
  | k + 4, _, h => by simp at h
theorem fld_43_0 (n o : Nat) (w : World) : (Instr.fieldAt 43 (.pointer (some ⟨n, o, none⟩)) 0).run Try.prog w = .ok (.pointer (some ⟨n, o + 0, none⟩)) w := by
  simp [Instr.fieldAt, go_sem, add_none]
theorem fld_43_1 (n o : Nat) (w : World) : (Instr.fieldAt 43 (.pointer (some ⟨n, o, none⟩)) 1).run Try.prog w = .ok (.pointer (some ⟨n, o + 9, none⟩)) w := by
  simp [Instr.fieldAt, go_sem, add_none]
theorem fld_43_2 (n o : Nat) (w : World) : (Instr.fieldAt 43 (.pointer (some ⟨n, o, none⟩)) 2).run Try.prog w = .ok (.pointer (some ⟨n, o + 10, none⟩)) w := by
  simp [Instr.fieldAt, go_sem, add_none]
theorem fld_43_3 (n o : Nat) (w : World) : (Instr.fieldAt 43 (.pointer (some ⟨n, o, none⟩)) 3).run Try.prog w = .ok (.pointer (some ⟨n, o + 11, none⟩)) w := by
  simp [Instr.fieldAt, go_sem, add_none]
theorem fld_43 : ∀ (k off : Nat), ([some 0, some 9, some 10, some 11] : List (Option Nat))[k]? = some (some off) → ∀ (n o : Nat) (w : World), (Instr.fieldAt 43 (.pointer (some ⟨n, o, none⟩)) k).run Try.prog w = .ok (.pointer (some ⟨n, o + off, none⟩)) w
  | 0, _, h => by simp at h; subst h; exact fld_43_0
  | 1, _, h => by simp at h; subst h; exact fld_43_1
  | 2, _, h => by simp at h; subst h; exact fld_43_2
  | 3, _, h => by simp at h; subst h; exact fld_43_3
  | k + 4, _, h => by simp at h
theorem fld_46_0 (n o : Nat) (w : World) : (Instr.fieldAt 46 (.pointer (some ⟨n, o, none⟩)) 0).run Try.prog w = .ok (.pointer (some ⟨n, o + 0, none⟩)) w := by
  simp [Instr.fieldAt, go_sem, add_none]
theorem fld_46_1 (n o : Nat) (w : World) : (Instr.fieldAt 46 (.pointer (some ⟨n, o, none⟩)) 1).run Try.prog w = .ok (.pointer (some ⟨n, o + 1, none⟩)) w := by
  simp [Instr.fieldAt, go_sem, add_none]
theorem fld_46 : ∀ (k off : Nat), ([some 0, some 1] : List (Option Nat))[k]? = some (some off) → ∀ (n o : Nat) (w : World), (Instr.fieldAt 46 (.pointer (some ⟨n, o, none⟩)) k).run Try.prog w = .ok (.pointer (some ⟨n, o + off, none⟩)) w
  | 0, _, h => by simp at h; subst h; exact fld_46_0
  | 1, _, h => by simp at h; subst h; exact fld_46_1
  | k + 2, _, h => by simp at h
theorem fld_47_0 (n o : Nat) (w : World) : (Instr.fieldAt 47 (.pointer (some ⟨n, o, none⟩)) 0).run Try.prog w = .ok (.pointer (some ⟨n, o + 0, none⟩)) w := by
  simp [Instr.fieldAt, go_sem, add_none]
theorem fld_47_1 (n o : Nat) (w : World) : (Instr.fieldAt 47 (.pointer (some ⟨n, o, none⟩)) 1).run Try.prog w = .ok (.pointer (some ⟨n, o + 1, none⟩)) w := by
  simp [Instr.fieldAt, go_sem, add_none]
theorem fld_47 : ∀ (k off : Nat), ([some 0, some 1] : List (Option Nat))[k]? = some (some off) → ∀ (n o : Nat) (w : World), (Instr.fieldAt 47 (.pointer (some ⟨n, o, none⟩)) k).run Try.prog w = .ok (.pointer (some ⟨n, o + off, none⟩)) w
  | 0, _, h => by simp at h; subst h; exact fld_47_0
  | 1, _, h => by simp at h; subst h; exact fld_47_1
  | k + 2, _, h => by simp at h
theorem fld_48_0 (n o : Nat) (w : World) : (Instr.fieldAt 48 (.pointer (some ⟨n, o, none⟩)) 0).run Try.prog w = .ok (.pointer (some ⟨n, o + 0, none⟩)) w := by
  simp [Instr.fieldAt, go_sem, add_none]
theorem fld_48_1 (n o : Nat) (w : World) : (Instr.fieldAt 48 (.pointer (some ⟨n, o, none⟩)) 1).run Try.prog w = .ok (.pointer (some ⟨n, o + 3, none⟩)) w := by
  simp [Instr.fieldAt, go_sem, add_none]
theorem fld_48_2 (n o : Nat) (w : World) : (Instr.fieldAt 48 (.pointer (some ⟨n, o, none⟩)) 2).run Try.prog w = .ok (.pointer (some ⟨n, o + 8, none⟩)) w := by
  simp [Instr.fieldAt, go_sem, add_none]
theorem fld_48_3 (n o : Nat) (w : World) : (Instr.fieldAt 48 (.pointer (some ⟨n, o, none⟩)) 3).run Try.prog w = .ok (.pointer (some ⟨n, o + 9, none⟩)) w := by
  simp [Instr.fieldAt, go_sem, add_none]
theorem fld_48 : ∀ (k off : Nat), ([some 0, some 3, some 8, some 9] : List (Option Nat))[k]? = some (some off) → ∀ (n o : Nat) (w : World), (Instr.fieldAt 48 (.pointer (some ⟨n, o, none⟩)) k).run Try.prog w = .ok (.pointer (some ⟨n, o + off, none⟩)) w
  | 0, _, h => by simp at h; subst h; exact fld_48_0
  | 1, _, h => by simp at h; subst h; exact fld_48_1
  | 2, _, h => by simp at h; subst h; exact fld_48_2
  | 3, _, h => by simp at h; subst h; exact fld_48_3
  | k + 4, _, h => by simp at h
theorem fld_49_0 (n o : Nat) (w : World) : (Instr.fieldAt 49 (.pointer (some ⟨n, o, none⟩)) 0).run Try.prog w = .ok (.pointer (some ⟨n, o + 0, none⟩)) w := by
  simp [Instr.fieldAt, go_sem, add_none]
theorem fld_49_1 (n o : Nat) (w : World) : (Instr.fieldAt 49 (.pointer (some ⟨n, o, none⟩)) 1).run Try.prog w = .ok (.pointer (some ⟨n, o + 3, none⟩)) w := by
  simp [Instr.fieldAt, go_sem, add_none]
theorem fld_49_2 (n o : Nat) (w : World) : (Instr.fieldAt 49 (.pointer (some ⟨n, o, none⟩)) 2).run Try.prog w = .ok (.pointer (some ⟨n, o + 8, none⟩)) w := by
  simp [Instr.fieldAt, go_sem, add_none]
theorem fld_49_3 (n o : Nat) (w : World) : (Instr.fieldAt 49 (.pointer (some ⟨n, o, none⟩)) 3).run Try.prog w = .ok (.pointer (some ⟨n, o + 9, none⟩)) w := by
  simp [Instr.fieldAt, go_sem, add_none]
theorem fld_49 : ∀ (k off : Nat), ([some 0, some 3, some 8, some 9] : List (Option Nat))[k]? = some (some off) → ∀ (n o : Nat) (w : World), (Instr.fieldAt 49 (.pointer (some ⟨n, o, none⟩)) k).run Try.prog w = .ok (.pointer (some ⟨n, o + off, none⟩)) w
  | 0, _, h => by simp at h; subst h; exact fld_49_0
  | 1, _, h => by simp at h; subst h; exact fld_49_1
  | 2, _, h => by simp at h; subst h; exact fld_49_2
  | 3, _, h => by simp at h; subst h; exact fld_49_3
  | k + 4, _, h => by simp at h
theorem fld_59_0 (n o : Nat) (w : World) : (Instr.fieldAt 59 (.pointer (some ⟨n, o, none⟩)) 0).run Try.prog w = .ok (.pointer (some ⟨n, o + 0, none⟩)) w := by
  simp [Instr.fieldAt, go_sem, add_none]
theorem fld_59_1 (n o : Nat) (w : World) : (Instr.fieldAt 59 (.pointer (some ⟨n, o, none⟩)) 1).run Try.prog w = .ok (.pointer (some ⟨n, o + 5, none⟩)) w := by
  simp [Instr.fieldAt, go_sem, add_none]
theorem fld_59_2 (n o : Nat) (w : World) : (Instr.fieldAt 59 (.pointer (some ⟨n, o, none⟩)) 2).run Try.prog w = .ok (.pointer (some ⟨n, o + 6, none⟩)) w := by
  simp [Instr.fieldAt, go_sem, add_none]
theorem fld_59 : ∀ (k off : Nat), ([some 0, some 5, some 6] : List (Option Nat))[k]? = some (some off) → ∀ (n o : Nat) (w : World), (Instr.fieldAt 59 (.pointer (some ⟨n, o, none⟩)) k).run Try.prog w = .ok (.pointer (some ⟨n, o + off, none⟩)) w
  | 0, _, h => by simp at h; subst h; exact fld_59_0
  | 1, _, h => by simp at h; subst h; exact fld_59_1
  | 2, _, h => by simp at h; subst h; exact fld_59_2
  | k + 3, _, h => by simp at h
theorem fld_60_0 (n o : Nat) (w : World) : (Instr.fieldAt 60 (.pointer (some ⟨n, o, none⟩)) 0).run Try.prog w = .ok (.pointer (some ⟨n, o + 0, none⟩)) w := by
  simp [Instr.fieldAt, go_sem, add_none]
theorem fld_60_1 (n o : Nat) (w : World) : (Instr.fieldAt 60 (.pointer (some ⟨n, o, none⟩)) 1).run Try.prog w = .ok (.pointer (some ⟨n, o + 5, none⟩)) w := by
  simp [Instr.fieldAt, go_sem, add_none]
theorem fld_60_2 (n o : Nat) (w : World) : (Instr.fieldAt 60 (.pointer (some ⟨n, o, none⟩)) 2).run Try.prog w = .ok (.pointer (some ⟨n, o + 6, none⟩)) w := by
  simp [Instr.fieldAt, go_sem, add_none]
theorem fld_60 : ∀ (k off : Nat), ([some 0, some 5, some 6] : List (Option Nat))[k]? = some (some off) → ∀ (n o : Nat) (w : World), (Instr.fieldAt 60 (.pointer (some ⟨n, o, none⟩)) k).run Try.prog w = .ok (.pointer (some ⟨n, o + off, none⟩)) w
  | 0, _, h => by simp at h; subst h; exact fld_60_0
  | 1, _, h => by simp at h; subst h; exact fld_60_1
  | 2, _, h => by simp at h; subst h; exact fld_60_2
  | k + 3, _, h => by simp at h
theorem fld_67_0 (n o : Nat) (w : World) : (Instr.fieldAt 67 (.pointer (some ⟨n, o, none⟩)) 0).run Try.prog w = .ok (.pointer (some ⟨n, o + 0, none⟩)) w := by
  simp [Instr.fieldAt, go_sem, add_none]
theorem fld_67_1 (n o : Nat) (w : World) : (Instr.fieldAt 67 (.pointer (some ⟨n, o, none⟩)) 1).run Try.prog w = .ok (.pointer (some ⟨n, o + 1, none⟩)) w := by
  simp [Instr.fieldAt, go_sem, add_none]
theorem fld_67 : ∀ (k off : Nat), ([some 0, some 1] : List (Option Nat))[k]? = some (some off) → ∀ (n o : Nat) (w : World), (Instr.fieldAt 67 (.pointer (some ⟨n, o, none⟩)) k).run Try.prog w = .ok (.pointer (some ⟨n, o + off, none⟩)) w
  | 0, _, h => by simp at h; subst h; exact fld_67_0
  | 1, _, h => by simp at h; subst h; exact fld_67_1
  | k + 2, _, h => by simp at h
theorem fld_68_0 (n o : Nat) (w : World) : (Instr.fieldAt 68 (.pointer (some ⟨n, o, none⟩)) 0).run Try.prog w = .ok (.pointer (some ⟨n, o + 0, none⟩)) w := by
  simp [Instr.fieldAt, go_sem, add_none]
theorem fld_68_1 (n o : Nat) (w : World) : (Instr.fieldAt 68 (.pointer (some ⟨n, o, none⟩)) 1).run Try.prog w = .ok (.pointer (some ⟨n, o + 1, none⟩)) w := by
  simp [Instr.fieldAt, go_sem, add_none]
theorem fld_68 : ∀ (k off : Nat), ([some 0, some 1] : List (Option Nat))[k]? = some (some off) → ∀ (n o : Nat) (w : World), (Instr.fieldAt 68 (.pointer (some ⟨n, o, none⟩)) k).run Try.prog w = .ok (.pointer (some ⟨n, o + off, none⟩)) w
  | 0, _, h => by simp at h; subst h; exact fld_68_0
  | 1, _, h => by simp at h; subst h; exact fld_68_1
  | k + 2, _, h => by simp at h
theorem fld_91_0 (n o : Nat) (w : World) : (Instr.fieldAt 91 (.pointer (some ⟨n, o, none⟩)) 0).run Try.prog w = .ok (.pointer (some ⟨n, o + 0, none⟩)) w := by
  simp [Instr.fieldAt, go_sem, add_none]
theorem fld_91_1 (n o : Nat) (w : World) : (Instr.fieldAt 91 (.pointer (some ⟨n, o, none⟩)) 1).run Try.prog w = .ok (.pointer (some ⟨n, o + 1, none⟩)) w := by
  simp [Instr.fieldAt, go_sem, add_none]
theorem fld_91_2 (n o : Nat) (w : World) : (Instr.fieldAt 91 (.pointer (some ⟨n, o, none⟩)) 2).run Try.prog w = .ok (.pointer (some ⟨n, o + 2, none⟩)) w := by
  simp [Instr.fieldAt, go_sem, add_none]
theorem fld_91_3 (n o : Nat) (w : World) : (Instr.fieldAt 91 (.pointer (some ⟨n, o, none⟩)) 3).run Try.prog w = .ok (.pointer (some ⟨n, o + 3, none⟩)) w := by
  simp [Instr.fieldAt, go_sem, add_none]
theorem fld_91 : ∀ (k off : Nat), ([some 0, some 1, some 2, some 3] : List (Option Nat))[k]? = some (some off) → ∀ (n o : Nat) (w : World), (Instr.fieldAt 91 (.pointer (some ⟨n, o, none⟩)) k).run Try.prog w = .ok (.pointer (some ⟨n, o + off, none⟩)) w
  | 0, _, h => by simp at h; subst h; exact fld_91_0
  | 1, _, h => by simp at h; subst h; exact fld_91_1
  | 2, _, h => by simp at h; subst h; exact fld_91_2
  | 3, _, h => by simp at h; subst h; exact fld_91_3
  | k + 4, _, h => by simp at h
theorem fld_92_0 (n o : Nat) (w : World) : (Instr.fieldAt 92 (.pointer (some ⟨n, o, none⟩)) 0).run Try.prog w = .ok (.pointer (some ⟨n, o + 0, none⟩)) w := by
  simp [Instr.fieldAt, go_sem, add_none]
theorem fld_92_1 (n o : Nat) (w : World) : (Instr.fieldAt 92 (.pointer (some ⟨n, o, none⟩)) 1).run Try.prog w = .ok (.pointer (some ⟨n, o + 1, none⟩)) w := by
  simp [Instr.fieldAt, go_sem, add_none]
theorem fld_92_2 (n o : Nat) (w : World) : (Instr.fieldAt 92 (.pointer (some ⟨n, o, none⟩)) 2).run Try.prog w = .ok (.pointer (some ⟨n, o + 2, none⟩)) w := by
  simp [Instr.fieldAt, go_sem, add_none]
theorem fld_92_3 (n o : Nat) (w : World) : (Instr.fieldAt 92 (.pointer (some ⟨n, o, none⟩)) 3).run Try.prog w = .ok (.pointer (some ⟨n, o + 3, none⟩)) w := by
  simp [Instr.fieldAt, go_sem, add_none]
theorem fld_92 : ∀ (k off : Nat), ([some 0, some 1, some 2, some 3] : List (Option Nat))[k]? = some (some off) → ∀ (n o : Nat) (w : World), (Instr.fieldAt 92 (.pointer (some ⟨n, o, none⟩)) k).run Try.prog w = .ok (.pointer (some ⟨n, o + off, none⟩)) w
  | 0, _, h => by simp at h; subst h; exact fld_92_0
  | 1, _, h => by simp at h; subst h; exact fld_92_1
  | 2, _, h => by simp at h; subst h; exact fld_92_2
  | 3, _, h => by simp at h; subst h; exact fld_92_3
  | k + 4, _, h => by simp at h
theorem fld_94 : ∀ (k off : Nat), ([none] : List (Option Nat))[k]? = some (some off) → ∀ (n o : Nat) (w : World), (Instr.fieldAt 94 (.pointer (some ⟨n, o, none⟩)) k).run Try.prog w = .ok (.pointer (some ⟨n, o + off, none⟩)) w
  | 0, _, h => by simp at h
  | k + 1, _, h => by simp at h
theorem fld_95 : ∀ (k off : Nat), ([none] : List (Option Nat))[k]? = some (some off) → ∀ (n o : Nat) (w : World), (Instr.fieldAt 95 (.pointer (some ⟨n, o, none⟩)) k).run Try.prog w = .ok (.pointer (some ⟨n, o + off, none⟩)) w
  | 0, _, h => by simp at h
  | k + 1, _, h => by simp at h
theorem fld_102_0 (n o : Nat) (w : World) : (Instr.fieldAt 102 (.pointer (some ⟨n, o, none⟩)) 0).run Try.prog w = .ok (.pointer (some ⟨n, o + 0, none⟩)) w := by
  simp [Instr.fieldAt, go_sem, add_none]
theorem fld_102_1 (n o : Nat) (w : World) : (Instr.fieldAt 102 (.pointer (some ⟨n, o, none⟩)) 1).run Try.prog w = .ok (.pointer (some ⟨n, o + 1, none⟩)) w := by
  simp [Instr.fieldAt, go_sem, add_none]
theorem fld_102_2 (n o : Nat) (w : World) : (Instr.fieldAt 102 (.pointer (some ⟨n, o, none⟩)) 2).run Try.prog w = .ok (.pointer (some ⟨n, o + 2, none⟩)) w := by
  simp [Instr.fieldAt, go_sem, add_none]
theorem fld_102_3 (n o : Nat) (w : World) : (Instr.fieldAt 102 (.pointer (some ⟨n, o, none⟩)) 3).run Try.prog w = .ok (.pointer (some ⟨n, o + 3, none⟩)) w := by
  simp [Instr.fieldAt, go_sem, add_none]
theorem fld_102_4 (n o : Nat) (w : World) : (Instr.fieldAt 102 (.pointer (some ⟨n, o, none⟩)) 4).run Try.prog w = .ok (.pointer (some ⟨n, o + 4, none⟩)) w := by
  simp [Instr.fieldAt, go_sem, add_none]
theorem fld_102_5 (n o : Nat) (w : World) : (Instr.fieldAt 102 (.pointer (some ⟨n, o, none⟩)) 5).run Try.prog w = .ok (.pointer (some ⟨n, o + 5, none⟩)) w := by
  simp [Instr.fieldAt, go_sem, add_none]
theorem fld_102_6 (n o : Nat) (w : World) : (Instr.fieldAt 102 (.pointer (some ⟨n, o, none⟩)) 6).run Try.prog w = .ok (.pointer (some ⟨n, o + 6, none⟩)) w := by
  simp [Instr.fieldAt, go_sem, add_none]
theorem fld_102_7 (n o : Nat) (w : World) : (Instr.fieldAt 102 (.pointer (some ⟨n, o, none⟩)) 7).run Try.prog w = .ok (.pointer (some ⟨n, o + 7, none⟩)) w := by
  simp [Instr.fieldAt, go_sem, add_none]
theorem fld_102_8 (n o : Nat) (w : World) : (Instr.fieldAt 102 (.pointer (some ⟨n, o, none⟩)) 8).run Try.prog w = .ok (.pointer (some ⟨n, o + 8, none⟩)) w := by
  simp [Instr.fieldAt, go_sem, add_none]
theorem fld_102_9 (n o : Nat) (w : World) : (Instr.fieldAt 102 (.pointer (some ⟨n, o, none⟩)) 9).run Try.prog w = .ok (.pointer (some ⟨n, o + 9, none⟩)) w := by
  simp [Instr.fieldAt, go_sem, add_none]
theorem fld_102_10 (n o : Nat) (w : World) : (Instr.fieldAt 102 (.pointer (some ⟨n, o, none⟩)) 10).run Try.prog w = .ok (.pointer (some ⟨n, o + 10, none⟩)) w := by
  simp [Instr.fieldAt, go_sem, add_none]
theorem fld_102 : ∀ (k off : Nat), ([some 0, some 1, some 2, some 3, some 4, some 5, some 6, some 7, some 8, some 9, some 10] : List (Option Nat))[k]? = some (some off) → ∀ (n o : Nat) (w : World), (Instr.fieldAt 102 (.pointer (some ⟨n, o, none⟩)) k).run Try.prog w = .ok (.pointer (some ⟨n, o + off, none⟩)) w
  | 0, _, h => by simp at h; subst h; exact fld_102_0
  | 1, _, h => by simp at h; subst h; exact fld_102_1
  | 2, _, h => by simp at h; subst h; exact fld_102_2
  | 3, _, h => by simp at h; subst h; exact fld_102_3
  | 4, _, h => by simp at h; subst h; exact fld_102_4
  | 5, _, h => by simp at h; subst h; exact fld_102_5
  | 6, _, h => by simp at h; subst h; exact fld_102_6
  | 7, _, h => by simp at h; subst h; exact fld_102_7
  | 8, _, h => by simp at h; subst h; exact fld_102_8
  | 9, _, h => by simp at h; subst h; exact fld_102_9
  | 10, _, h => by simp at h; subst h; exact fld_102_10
  | k + 11, _, h => by simp at h
theorem fld_103_0 (n o : Nat) (w : World) : (Instr.fieldAt 103 (.pointer (some ⟨n, o, none⟩)) 0).run Try.prog w = .ok (.pointer (some ⟨n, o + 0, none⟩)) w := by
  simp [Instr.fieldAt, go_sem, add_none]
theorem fld_103_1 (n o : Nat) (w : World) : (Instr.fieldAt 103 (.pointer (some ⟨n, o, none⟩)) 1).run Try.prog w = .ok (.pointer (some ⟨n, o + 1, none⟩)) w := by
  simp [Instr.fieldAt, go_sem, add_none]
theorem fld_103_2 (n o : Nat) (w : World) : (Instr.fieldAt 103 (.pointer (some ⟨n, o, none⟩)) 2).run Try.prog w = .ok (.pointer (some ⟨n, o + 2, none⟩)) w := by
  simp [Instr.fieldAt, go_sem, add_none]
theorem fld_103_3 (n o : Nat) (w : World) : (Instr.fieldAt 103 (.pointer (some ⟨n, o, none⟩)) 3).run Try.prog w = .ok (.pointer (some ⟨n, o + 3, none⟩)) w := by
  simp [Instr.fieldAt, go_sem, add_none]
theorem fld_103_4 (n o : Nat) (w : World) : (Instr.fieldAt 103 (.pointer (some ⟨n, o, none⟩)) 4).run Try.prog w = .ok (.pointer (some ⟨n, o + 4, none⟩)) w := by
  simp [Instr.fieldAt, go_sem, add_none]
theorem fld_103_5 (n o : Nat) (w : World) : (Instr.fieldAt 103 (.pointer (some ⟨n, o, none⟩)) 5).run Try.prog w = .ok (.pointer (some ⟨n, o + 5, none⟩)) w := by
  simp [Instr.fieldAt, go_sem, add_none]
theorem fld_103_6 (n o : Nat) (w : World) : (Instr.fieldAt 103 (.pointer (some ⟨n, o, none⟩)) 6).run Try.prog w = .ok (.pointer (some ⟨n, o + 6, none⟩)) w := by
  simp [Instr.fieldAt, go_sem, add_none]
theorem fld_103_7 (n o : Nat) (w : World) : (Instr.fieldAt 103 (.pointer (some ⟨n, o, none⟩)) 7).run Try.prog w = .ok (.pointer (some ⟨n, o + 7, none⟩)) w := by
  simp [Instr.fieldAt, go_sem, add_none]
theorem fld_103_8 (n o : Nat) (w : World) : (Instr.fieldAt 103 (.pointer (some ⟨n, o, none⟩)) 8).run Try.prog w = .ok (.pointer (some ⟨n, o + 8, none⟩)) w := by
  simp [Instr.fieldAt, go_sem, add_none]
theorem fld_103_9 (n o : Nat) (w : World) : (Instr.fieldAt 103 (.pointer (some ⟨n, o, none⟩)) 9).run Try.prog w = .ok (.pointer (some ⟨n, o + 9, none⟩)) w := by
  simp [Instr.fieldAt, go_sem, add_none]
theorem fld_103_10 (n o : Nat) (w : World) : (Instr.fieldAt 103 (.pointer (some ⟨n, o, none⟩)) 10).run Try.prog w = .ok (.pointer (some ⟨n, o + 10, none⟩)) w := by
  simp [Instr.fieldAt, go_sem, add_none]
theorem fld_103 : ∀ (k off : Nat), ([some 0, some 1, some 2, some 3, some 4, some 5, some 6, some 7, some 8, some 9, some 10] : List (Option Nat))[k]? = some (some off) → ∀ (n o : Nat) (w : World), (Instr.fieldAt 103 (.pointer (some ⟨n, o, none⟩)) k).run Try.prog w = .ok (.pointer (some ⟨n, o + off, none⟩)) w
  | 0, _, h => by simp at h; subst h; exact fld_103_0
  | 1, _, h => by simp at h; subst h; exact fld_103_1
  | 2, _, h => by simp at h; subst h; exact fld_103_2
  | 3, _, h => by simp at h; subst h; exact fld_103_3
  | 4, _, h => by simp at h; subst h; exact fld_103_4
  | 5, _, h => by simp at h; subst h; exact fld_103_5
  | 6, _, h => by simp at h; subst h; exact fld_103_6
  | 7, _, h => by simp at h; subst h; exact fld_103_7
  | 8, _, h => by simp at h; subst h; exact fld_103_8
  | 9, _, h => by simp at h; subst h; exact fld_103_9
  | 10, _, h => by simp at h; subst h; exact fld_103_10
  | k + 11, _, h => by simp at h
def fldL : List (Nat × List (Option Nat)) := [(7, [some 0, some 1, some 2, some 3]), (8, [some 0, some 1, some 2, some 3]), (13, [some 0, some 1]), (14, [some 0, some 1]), (18, [some 0]), (19, [some 0]), (23, [some 0, some 1, some 2, some 3, some 4]), (24, [some 0, some 1, some 2, some 3, some 4]), (29, [some 0, some 1, some 2, some 3, some 4, some 5, some 6, some 7, some 8]), (30, [some 0, some 1, some 2, some 3, some 4, some 5, some 6, some 7, some 8]), (42, [some 0, some 9, some 10, some 11]), (43, [some 0, some 9, some 10, some 11]), (46, [some 0, some 1]), (47, [some 0, some 1]), (48, [some 0, some 3, some 8, some 9]), (49, [some 0, some 3, some 8, some 9]), (59, [some 0, some 5, some 6]), (60, [some 0, some 5, some 6]), (67, [some 0, some 1]), (68, [some 0, some 1]), (91, [some 0, some 1, some 2, some 3]), (92, [some 0, some 1, some 2, some 3]), (94, [none]), (95, [none]), (102, [some 0, some 1, some 2, some 3, some 4, some 5, some 6, some 7, some 8, some 9, some 10]), (103, [some 0, some 1, some 2, some 3, some 4, some 5, some 6, some 7, some 8, some 9, some 10])]
set_option maxRecDepth 100000 in
theorem fldAll : ∀ x ∈ fldL, ∀ (k off : Nat), x.2[k]? = some (some off) → ∀ (n o : Nat) (w : World), (Instr.fieldAt x.1 (.pointer (some ⟨n, o, none⟩)) k).run Try.prog w = .ok (.pointer (some ⟨n, o + off, none⟩)) w :=
  (List.forall_mem_cons.2 ⟨fld_7, (List.forall_mem_cons.2 ⟨fld_8, (List.forall_mem_cons.2 ⟨fld_13, (List.forall_mem_cons.2 ⟨fld_14, (List.forall_mem_cons.2 ⟨fld_18, (List.forall_mem_cons.2 ⟨fld_19, (List.forall_mem_cons.2 ⟨fld_23, (List.forall_mem_cons.2 ⟨fld_24, (List.forall_mem_cons.2 ⟨fld_29, (List.forall_mem_cons.2 ⟨fld_30, (List.forall_mem_cons.2 ⟨fld_42, (List.forall_mem_cons.2 ⟨fld_43, (List.forall_mem_cons.2 ⟨fld_46, (List.forall_mem_cons.2 ⟨fld_47, (List.forall_mem_cons.2 ⟨fld_48, (List.forall_mem_cons.2 ⟨fld_49, (List.forall_mem_cons.2 ⟨fld_59, (List.forall_mem_cons.2 ⟨fld_60, (List.forall_mem_cons.2 ⟨fld_67, (List.forall_mem_cons.2 ⟨fld_68, (List.forall_mem_cons.2 ⟨fld_91, (List.forall_mem_cons.2 ⟨fld_92, (List.forall_mem_cons.2 ⟨fld_94, (List.forall_mem_cons.2 ⟨fld_95, (List.forall_mem_cons.2 ⟨fld_102, (List.forall_mem_cons.2 ⟨fld_103, (List.forall_mem_nil _)⟩)⟩)⟩)⟩)⟩)⟩)⟩)⟩)⟩)⟩)⟩)⟩)⟩)⟩)⟩)⟩)⟩)⟩)⟩)⟩)⟩)⟩)⟩)⟩)⟩)⟩)
def zerL : List (Nat × List Value) := [(1, [Value.nilFunc]), (2, [Value.int IntKind.i64 0]), (3, [Value.int IntKind.i64 0]), (4, [Value.bool false]), (5, [Value.int IntKind.u8 0]), (6, [Value.int IntKind.u8 0]), (7, [Value.int IntKind.i64 0, Value.int IntKind.i64 0, Value.bool false, Value.int IntKind.u8 0]), (8, [Value.int IntKind.i64 0, Value.int IntKind.i64 0, Value.bool false, Value.int IntKind.u8 0]), (9, [Value.string { data := #[] }]), (10, [Value.string { data := #[] }]), (11, [Value.string { data := #[] }]), (12, [Value.int IntKind.u64 0]), (13, [Value.string { data := #[] }, Value.int IntKind.u64 0]), (14, [Value.string { data := #[] }, Value.int IntKind.u64 0]), (15, [Value.pointer none]), (16, [Value.pointer none]), (17, [Value.pointer none]), (18, [Value.pointer none]), (19, [Value.pointer none]), (20, [Value.nilIface]), (21, [Value.int IntKind.i32 0]), (22, [Value.int IntKind.u32 0]), (23, [Value.int IntKind.u32 0, Value.int IntKind.u32 0, Value.int IntKind.i64 0, Value.int IntKind.i64 0, Value.int IntKind.i64 0]), (24, [Value.int IntKind.u32 0, Value.int IntKind.u32 0, Value.int IntKind.i64 0, Value.int IntKind.i64 0, Value.int IntKind.i64 0]), (25, [Value.nilFunc]), (26, [Value.nilFunc]), (27, [Value.pointer none]), (28, [Value.nilFunc]), (29, [Value.int IntKind.i64 0, Value.int IntKind.i64 0, Value.int IntKind.i64 0, Value.int IntKind.i64 0, Value.int IntKind.i64 0, Value.int IntKind.i64 0, Value.int IntKind.i64 0, Value.int IntKind.i64 0, Value.int IntKind.i64 0]), (30, [Value.int IntKind.i64 0, Value.int IntKind.i64 0, Value.int IntKind.i64 0, Value.int IntKind.i64 0, Value.int IntKind.i64 0, Value.int IntKind.i64 0, Value.int IntKind.i64 0, Value.int IntKind.i64 0, Value.int IntKind.i64 0]), (31, [Value.int IntKind.i64 0]), (32, [Value.nilFunc]), (33, [Value.nilFunc]), (34, [Value.nilFunc]), (35, [Value.nilFunc]), (37, [Value.nilFunc]), (38, [Value.slice none 0 0]), (39, [Value.nilFunc]), (40, [Value.nilFunc]), (41, [Value.map none]), (42, [Value.int IntKind.i64 0, Value.int IntKind.i64 0, Value.int IntKind.i64 0, Value.int IntKind.i64 0, Value.int IntKind.i64 0, Value.int IntKind.i64 0, Value.int IntKind.i64 0, Value.int IntKind.i64 0, Value.int IntKind.i64 0, Value.map none, Value.int IntKind.i64 0, Value.int IntKind.i64 0]), (43, [Value.int IntKind.i64 0, Value.int IntKind.i64 0, Value.int IntKind.i64 0, Value.int IntKind.i64 0, Value.int IntKind.i64 0, Value.int IntKind.i64 0, Value.int IntKind.i64 0, Value.int IntKind.i64 0, Value.int IntKind.i64 0, Value.map none, Value.int IntKind.i64 0, Value.int IntKind.i64 0]), (44, [Value.pointer none]), (45, [Value.bool false, Value.bool false]), (46, [Value.int IntKind.i64 0, Value.bool false, Value.bool false]), (47, [Value.int IntKind.i64 0, Value.bool false, Value.bool false]), (48, [Value.int IntKind.i64 0, Value.bool false, Value.bool false, Value.int IntKind.u32 0, Value.int IntKind.u32 0, Value.int IntKind.i64 0, Value.int IntKind.i64 0, Value.int IntKind.i64 0, Value.int IntKind.i64 0, Value.int IntKind.i64 0]), (49, [Value.int IntKind.i64 0, Value.bool false, Value.bool false, Value.int IntKind.u32 0, Value.int IntKind.u32 0, Value.int IntKind.i64 0, Value.int IntKind.i64 0, Value.int IntKind.i64 0, Value.int IntKind.i64 0, Value.int IntKind.i64 0]), (51, [Value.nilFunc]), (53, [Value.nilFunc]), (54, [Value.nilFunc]), (55, [Value.slice none 0 0]), (56, [Value.nilFunc]), (57, [Value.nilFunc]), (58, [Value.nilFunc]), (59, [Value.int IntKind.u32 0, Value.int IntKind.u32 0, Value.int IntKind.i64 0, Value.int IntKind.i64 0, Value.int IntKind.i64 0, Value.int IntKind.i64 0, Value.int IntKind.i64 0]), (60, [Value.int IntKind.u32 0, Value.int IntKind.u32 0, Value.int IntKind.i64 0, Value.int IntKind.i64 0, Value.int IntKind.i64 0, Value.int IntKind.i64 0, Value.int IntKind.i64 0]), (61, [Value.nilFunc]), (62, [Value.nilFunc]), (63, [Value.nilFunc]), (64, [Value.int IntKind.u64 0]), (65, [Value.nilFunc]), (66, [Value.nilFunc]), (67, [Value.bool false, Value.int IntKind.i64 0]), (68, [Value.bool false, Value.int IntKind.i64 0]), (69, [Value.nilFunc]), (70, [Value.int IntKind.i64 0]), (72, [Value.nilFunc]), (73, [Value.nilFunc]), (74, [Value.nilFunc]), (76, [Value.nilFunc]), (77, [Value.nilFunc]), (78, [Value.nilFunc]), (79, [Value.int IntKind.u64 0]), (80, [Value.nilFunc]), (81, [Value.int IntKind.u64 0]), (82, [Value.nilFunc]), (83, [Value.nilFunc]), (84, [Value.nilFunc]), (85, [Value.pointer none]), (86, [Value.nilFunc]), (87, [Value.pointer none]), (89, [Value.nilFunc]), (90, [Value.nilFunc]), (91, [Value.pointer none, Value.pointer none, Value.pointer none, Value.string { data := #[] }]), (92, [Value.pointer none, Value.pointer none, Value.pointer none, Value.string { data := #[] }]), (93, []), (94, []), (95, []), (96, [Value.int IntKind.u8 0]), (97, [Value.int IntKind.u8 0]), (98, [Value.nilFunc]), (99, [Value.pointer none]), (100, [Value.int IntKind.i32 0]), (101, [Value.int IntKind.i32 0]), (102, [Value.int IntKind.u64 0, Value.int IntKind.u64 0, Value.int IntKind.u32 0, Value.int IntKind.u8 0, Value.int IntKind.u8 0, Value.int IntKind.u8 0, Value.int IntKind.u8 0, Value.nilFunc, Value.pointer none, Value.int IntKind.i32 0, Value.int IntKind.i32 0]), (103, [Value.int IntKind.u64 0, Value.int IntKind.u64 0, Value.int IntKind.u32 0, Value.int IntKind.u8 0, Value.int IntKind.u8 0, Value.int IntKind.u8 0, Value.int IntKind.u8 0, Value.nilFunc, Value.pointer none, Value.int IntKind.i32 0, Value.int IntKind.i32 0]), (104, [Value.pointer none])]
set_option maxRecDepth 100000 in
theorem zerAll : ∀ x ∈ zerL, ∀ w, ∃ z, (zeroValue x.1).run Try.prog w = .ok z w ∧ z.cells = x.2.toArray :=
  (List.forall_mem_cons.2 ⟨fun w => ⟨_, Try.zeroValue1 w, rfl⟩, (List.forall_mem_cons.2 ⟨fun w => ⟨_, Try.zeroValue2 w, rfl⟩, (List.forall_mem_cons.2 ⟨fun w => ⟨_, Try.zeroValue3 w, rfl⟩, (List.forall_mem_cons.2 ⟨fun w => ⟨_, Try.zeroValue4 w, rfl⟩, (List.forall_mem_cons.2 ⟨fun w => ⟨_, Try.zeroValue5 w, rfl⟩, (List.forall_mem_cons.2 ⟨fun w => ⟨_, Try.zeroValue6 w, rfl⟩, (List.forall_mem_cons.2 ⟨fun w => ⟨_, Try.zeroValue7 w, rfl⟩, (List.forall_mem_cons.2 ⟨fun w => ⟨_, Try.zeroValue8 w, rfl⟩, (List.forall_mem_cons.2 ⟨fun w => ⟨_, Try.zeroValue9 w, rfl⟩, (List.forall_mem_cons.2 ⟨fun w => ⟨_, Try.zeroValue10 w, rfl⟩, (List.forall_mem_cons.2 ⟨fun w => ⟨_, Try.zeroValue11 w, rfl⟩, (List.forall_mem_cons.2 ⟨fun w => ⟨_, Try.zeroValue12 w, rfl⟩, (List.forall_mem_cons.2 ⟨fun w => ⟨_, Try.zeroValue13 w, rfl⟩, (List.forall_mem_cons.2 ⟨fun w => ⟨_, Try.zeroValue14 w, rfl⟩, (List.forall_mem_cons.2 ⟨fun w => ⟨_, Try.zeroValue15 w, rfl⟩, (List.forall_mem_cons.2 ⟨fun w => ⟨_, Try.zeroValue16 w, rfl⟩, (List.forall_mem_cons.2 ⟨fun w => ⟨_, Try.zeroValue17 w, rfl⟩, (List.forall_mem_cons.2 ⟨fun w => ⟨_, Try.zeroValue18 w, rfl⟩, (List.forall_mem_cons.2 ⟨fun w => ⟨_, Try.zeroValue19 w, rfl⟩, (List.forall_mem_cons.2 ⟨fun w => ⟨_, Try.zeroValue20 w, rfl⟩, (List.forall_mem_cons.2 ⟨fun w => ⟨_, Try.zeroValue21 w, rfl⟩, (List.forall_mem_cons.2 ⟨fun w => ⟨_, Try.zeroValue22 w, rfl⟩, (List.forall_mem_cons.2 ⟨fun w => ⟨_, Try.zeroValue23 w, rfl⟩, (List.forall_mem_cons.2 ⟨fun w => ⟨_, Try.zeroValue24 w, rfl⟩, (List.forall_mem_cons.2 ⟨fun w => ⟨_, Try.zeroValue25 w, rfl⟩, (List.forall_mem_cons.2 ⟨fun w => ⟨_, Try.zeroValue26 w, rfl⟩, (List.forall_mem_cons.2 ⟨fun w => ⟨_, Try.zeroValue27 w, rfl⟩, (List.forall_mem_cons.2 ⟨fun w => ⟨_, Try.zeroValue28 w, rfl⟩, (List.forall_mem_cons.2 ⟨fun w => ⟨_, Try.zeroValue29 w, rfl⟩, (List.forall_mem_cons.2 ⟨fun w => ⟨_, Try.zeroValue30 w, rfl⟩, (List.forall_mem_cons.2 ⟨fun w => ⟨_, Try.zeroValue31 w, rfl⟩, (List.forall_mem_cons.2 ⟨fun w => ⟨_, Try.zeroValue32 w, rfl⟩, (List.forall_mem_cons.2 ⟨fun w => ⟨_, Try.zeroValue33 w, rfl⟩, (List.forall_mem_cons.2 ⟨fun w => ⟨_, Try.zeroValue34 w, rfl⟩, (List.forall_mem_cons.2 ⟨fun w => ⟨_, Try.zeroValue35 w, rfl⟩, (List.forall_mem_cons.2 ⟨fun w => ⟨_, Try.zeroValue37 w, rfl⟩, (List.forall_mem_cons.2 ⟨fun w => ⟨_, Try.zeroValue38 w, rfl⟩, (List.forall_mem_cons.2 ⟨fun w => ⟨_, Try.zeroValue39 w, rfl⟩, (List.forall_mem_cons.2 ⟨fun w => ⟨_, Try.zeroValue40 w, rfl⟩, (List.forall_mem_cons.2 ⟨fun w => ⟨_, Try.zeroValue41 w, rfl⟩, (List.forall_mem_cons.2 ⟨fun w => ⟨_, Try.zeroValue42 w, rfl⟩, (List.forall_mem_cons.2 ⟨fun w => ⟨_, Try.zeroValue43 w, rfl⟩, (List.forall_mem_cons.2 ⟨fun w => ⟨_, Try.zeroValue44 w, rfl⟩, (List.forall_mem_cons.2 ⟨fun w => ⟨_, Try.zeroValue45 w, rfl⟩, (List.forall_mem_cons.2 ⟨fun w => ⟨_, Try.zeroValue46 w, rfl⟩, (List.forall_mem_cons.2 ⟨fun w => ⟨_, Try.zeroValue47 w, rfl⟩, (List.forall_mem_cons.2 ⟨fun w => ⟨_, Try.zeroValue48 w, rfl⟩, (List.forall_mem_cons.2 ⟨fun w => ⟨_, Try.zeroValue49 w, rfl⟩, (List.forall_mem_cons.2 ⟨fun w => ⟨_, Try.zeroValue51 w, rfl⟩, (List.forall_mem_cons.2 ⟨fun w => ⟨_, Try.zeroValue53 w, rfl⟩, (List.forall_mem_cons.2 ⟨fun w => ⟨_, Try.zeroValue54 w, rfl⟩, (List.forall_mem_cons.2 ⟨fun w => ⟨_, Try.zeroValue55 w, rfl⟩, (List.forall_mem_cons.2 ⟨fun w => ⟨_, Try.zeroValue56 w, rfl⟩, (List.forall_mem_cons.2 ⟨fun w => ⟨_, Try.zeroValue57 w, rfl⟩, (List.forall_mem_cons.2 ⟨fun w => ⟨_, Try.zeroValue58 w, rfl⟩, (List.forall_mem_cons.2 ⟨fun w => ⟨_, Try.zeroValue59 w, rfl⟩, (List.forall_mem_cons.2 ⟨fun w => ⟨_, Try.zeroValue60 w, rfl⟩, (List.forall_mem_cons.2 ⟨fun w => ⟨_, Try.zeroValue61 w, rfl⟩, (List.forall_mem_cons.2 ⟨fun w => ⟨_, Try.zeroValue62 w, rfl⟩, (List.forall_mem_cons.2 ⟨fun w => ⟨_, Try.zeroValue63 w, rfl⟩, (List.forall_mem_cons.2 ⟨fun w => ⟨_, Try.zeroValue64 w, rfl⟩, (List.forall_mem_cons.2 ⟨fun w => ⟨_, Try.zeroValue65 w, rfl⟩, (List.forall_mem_cons.2 ⟨fun w => ⟨_, Try.zeroValue66 w, rfl⟩, (List.forall_mem_cons.2 ⟨fun w => ⟨_, Try.zeroValue67 w, rfl⟩, (List.forall_mem_cons.2 ⟨fun w => ⟨_, Try.zeroValue68 w, rfl⟩, (List.forall_mem_cons.2 ⟨fun w => ⟨_, Try.zeroValue69 w, rfl⟩, (List.forall_mem_cons.2 ⟨fun w => ⟨_, Try.zeroValue70 w, rfl⟩, (List.forall_mem_cons.2 ⟨fun w => ⟨_, Try.zeroValue72 w, rfl⟩, (List.forall_mem_cons.2 ⟨fun w => ⟨_, Try.zeroValue73 w, rfl⟩, (List.forall_mem_cons.2 ⟨fun w => ⟨_, Try.zeroValue74 w, rfl⟩, (List.forall_mem_cons.2 ⟨fun w => ⟨_, Try.zeroValue76 w, rfl⟩, (List.forall_mem_cons.2 ⟨fun w => ⟨_, Try.zeroValue77 w, rfl⟩, (List.forall_mem_cons.2 ⟨fun w => ⟨_, Try.zeroValue78 w, rfl⟩, (List.forall_mem_cons.2 ⟨fun w => ⟨_, Try.zeroValue79 w, rfl⟩, (List.forall_mem_cons.2 ⟨fun w => ⟨_, Try.zeroValue80 w, rfl⟩, (List.forall_mem_cons.2 ⟨fun w => ⟨_, Try.zeroValue81 w, rfl⟩, (List.forall_mem_cons.2 ⟨fun w => ⟨_, Try.zeroValue82 w, rfl⟩, (List.forall_mem_cons.2 ⟨fun w => ⟨_, Try.zeroValue83 w, rfl⟩, (List.forall_mem_cons.2 ⟨fun w => ⟨_, Try.zeroValue84 w, rfl⟩, (List.forall_mem_cons.2 ⟨fun w => ⟨_, Try.zeroValue85 w, rfl⟩, (List.forall_mem_cons.2 ⟨fun w => ⟨_, Try.zeroValue86 w, rfl⟩, (List.forall_mem_cons.2 ⟨fun w => ⟨_, Try.zeroValue87 w, rfl⟩, (List.forall_mem_cons.2 ⟨fun w => ⟨_, Try.zeroValue89 w, rfl⟩, (List.forall_mem_cons.2 ⟨fun w => ⟨_, Try.zeroValue90 w, rfl⟩, (List.forall_mem_cons.2 ⟨fun w => ⟨_, Try.zeroValue91 w, rfl⟩, (List.forall_mem_cons.2 ⟨fun w => ⟨_, Try.zeroValue92 w, rfl⟩, (List.forall_mem_cons.2 ⟨fun w => ⟨_, Try.zeroValue93 w, rfl⟩, (List.forall_mem_cons.2 ⟨fun w => ⟨_, Try.zeroValue94 w, rfl⟩, (List.forall_mem_cons.2 ⟨fun w => ⟨_, Try.zeroValue95 w, rfl⟩, (List.forall_mem_cons.2 ⟨fun w => ⟨_, Try.zeroValue96 w, rfl⟩, (List.forall_mem_cons.2 ⟨fun w => ⟨_, Try.zeroValue97 w, rfl⟩, (List.forall_mem_cons.2 ⟨fun w => ⟨_, Try.zeroValue98 w, rfl⟩, (List.forall_mem_cons.2 ⟨fun w => ⟨_, Try.zeroValue99 w, rfl⟩, (List.forall_mem_cons.2 ⟨fun w => ⟨_, Try.zeroValue100 w, rfl⟩, (List.forall_mem_cons.2 ⟨fun w => ⟨_, Try.zeroValue101 w, rfl⟩, (List.forall_mem_cons.2 ⟨fun w => ⟨_, Try.zeroValue102 w, rfl⟩, (List.forall_mem_cons.2 ⟨fun w => ⟨_, Try.zeroValue103 w, rfl⟩, (List.forall_mem_cons.2 ⟨fun w => ⟨_, Try.zeroValue104 w, rfl⟩, (List.forall_mem_nil _)⟩)⟩)⟩)⟩)⟩)⟩)⟩)⟩)⟩)⟩)⟩)⟩)⟩)⟩)⟩)⟩)⟩)⟩)⟩)⟩)⟩)⟩)⟩)⟩)⟩)⟩)⟩)⟩)⟩)⟩)⟩)⟩)⟩)⟩)⟩)⟩)⟩)⟩)⟩)⟩)⟩)⟩)⟩)⟩)⟩)⟩)⟩)⟩)⟩)⟩)⟩)⟩)⟩)⟩)⟩)⟩)⟩)⟩)⟩)⟩)⟩)⟩)⟩)⟩)⟩)⟩)⟩)⟩)⟩)⟩)⟩)⟩)⟩)⟩)⟩)⟩)⟩)⟩)⟩)⟩)⟩)⟩)⟩)⟩)⟩)⟩)⟩)⟩)⟩)⟩)⟩)⟩)⟩)⟩)⟩)⟩)⟩)⟩)
section
variable {w0 : World} {S : List Nat} {Q : SP} {rs : List Res} {ops : Array Oper} {l l' : List Value} {ds : List Deferred} {rest : List Oper} {d : Tmp} {ty : TypeId} {pos : String} {aft : Array Edge} {gd : Option (Nat × Bool)} {dt : Option Tmp}
/-- A guard that was passed over itself. -/
theorem unwant_u {ol : List Oper} {o : Oper} {g : Nat} {t : Tmp} {b : Bool} (hg : o.guard = some (g, b)) (ht : (ol[g]?).bind (·.dst) = some t) (hb : opnd l (.tmp t) = some undef) : Region.wanted o (yielded ol.toArray l.toArray) = false := by
  simp only [opnd] at hb
  simp [Region.wanted, hg, yielded, ht, hb, undef]
theorem aggT {T : TypeId} (h : look aggL T = some true) : ∀ w, (isAgg T).run Try.prog w = .ok true w := aggAll _ (look_mem h)
theorem aggF {T : TypeId} (h : look aggL T = some false) : ∀ w, (isAgg T).run Try.prog w = .ok false w := aggAll _ (look_mem h)
theorem sizT {T n : Nat} (h : look sizL T = some n) : ∀ w, (sizeOf T).run Try.prog w = .ok n w := sizAll _ (look_mem h)
theorem run_call {f : FuncId} {xs : List Operand} {ts : Array TypeId} {vs : List Value} (hx : opnds l xs = some vs) (h : look calL f = some ()) (w : World) :
    (execOp (Act.eval ⟨l.toArray, ds⟩) ⟨dt, .call { callee := .value (.func f), args := xs.toArray, argTypes := ts }, ty, pos, aft, gd⟩).run Try.prog w = .ok (.enter f vs.toArray) w := by
  have key : ∀ (xs : List Operand) (vs : List Value), opnds l xs = some vs → xs.map (Act.eval ⟨l.toArray, ds⟩) = vs := by
    intro xs
    induction xs with
    | nil => intro vs h; simp only [opnds] at h; injection h
    | cons x xs ih =>
      intro vs h
      simp only [opnds] at h
      split at h
      · rename_i v us h1 h2
        injection h with h
        subst h
        rw [List.map_cons, opnd_eval h1, ih us h2]
      · cases h
  have hf : Act.eval ⟨l.toArray, ds⟩ (.func f) = .func (.func f) #[] #[] := rfl
  simp only [execOp, Sem.run_bind, resolve, hf, Deferred.ofValue, List.map_toArray, key xs vs hx, Sem.run_pure, Result.andThen_ok, invoke]
  have := calAll _ (look_mem h) vs.toArray w
  simpa using this
theorem opv_fld {T : TypeId} {x : Operand} {f n o off o' : Nat} (hx : opnd l x = some (.pointer (some ⟨n, o, none⟩))) {offs : List (Option Nat)} (h : look fldL T = some offs) (hk : offs[f]? = some (some off)) (ho : o + off = o') :
    OpVal Try.prog w0 S rs l ds ⟨dt, .fieldAddr T x f, ty, pos, aft, gd⟩ (.pointer (some ⟨n, o', none⟩)) := by
  subst ho
  exact opv_fieldAddr hx (fun w _ => fldAll _ (look_mem h) f off hk n o w)
/-- What a load of a known block's cells yields. -/
def LoadV (T : TypeId) (cs : List Value) (off : Nat) (v : Value) : Prop := ∀ (w : World) (n : Nat) (t : TypeId), Blk w n cs t → (Instr.loadAt T (.pointer (some ⟨n, off, none⟩))).run Try.prog w = .ok v w
theorem LoadV.one {T : TypeId} {cs : List Value} {off : Nat} {v : Value} (hT : look aggL T = some false) (hv : cs[off]? = some v) : LoadV T cs off v := fun w n t hb =>
  run_load1 (aggF hT) (by rw [hb.cell]; simpa using hv)
theorem LoadV.whole {T : TypeId} {cs : List Value} (hT : look aggL T = some true) (hz : look sizL T = some cs.length) : LoadV T cs 0 (.agg cs.toArray) := fun w n t hb =>
  run_loadN (aggT hT) (sizT hz) (fun j v hj => by rw [hb.cell]; simpa using hj)
theorem LoadV.part {T : TypeId} {cs vs : List Value} {off m : Nat} (hT : look aggL T = some true) (hz : look sizL T = some m) (hv : (cs.drop off).take m = vs) (hm : vs.length = m) : LoadV T cs off (.agg vs.toArray) := fun w n t hb => by
  subst hm
  refine run_loadN (aggT hT) (sizT hz) (fun j v hj => ?_)
  rw [hb.cell]
  have hlt := (List.getElem?_eq_some_iff.1 hj).1
  rw [← hv, List.getElem?_take, if_pos hlt, List.getElem?_drop] at hj
  simpa using hj
theorem opv_load {T : TypeId} {x : Operand} {n off : Nat} {v : Value} {cs : List Value} {t : TypeId} (hx : opnd l x = some (.pointer (some ⟨n, off, none⟩))) (hm : blk n cs t ∈ rs) (hv : LoadV T cs off v) :
    OpVal Try.prog w0 S rs l ds ⟨dt, .load T x, ty, pos, aft, gd⟩ v := fun w hs => by
  simp only [execOp, opnd_eval hx, Sem.run_bind, hv w n t (hs.all _ hm)]; rfl
/-- One of the things is another one now. -/
inductive Upd (r r' : Res) : List Res → List Res → Prop
  | head {tl : List Res} : Upd r r' (r :: tl) (r' :: tl)
  | tail {x : Res} {tl tl' : List Res} : Upd r r' tl tl' → Upd r r' (x :: tl) (x :: tl')
theorem Upd.split {r r' : Res} {a b : List Res} (h : Upd r r' a b) : ∃ pre post, a = pre ++ r :: post ∧ b = pre ++ r' :: post := by
  induction h with
  | head => exact ⟨[], _, rfl, rfl⟩
  | tail _ ih => obtain ⟨pre, post, rfl, rfl⟩ := ih; exact ⟨_ :: pre, post, rfl, rfl⟩
theorem Sep.updU {w w' : World} {r r' : Res} {rs' : List Res} (h : Sep w0 S rs w) (hu : Upd r r' rs rs') (hm : Mod r.foot w w') (hr : r'.holds w') (hf : ∀ n ∈ r'.foot, n ∈ r.foot ∨ w.heap.size ≤ n) : Sep w0 S rs' w' := by
  obtain ⟨pre, post, rfl, rfl⟩ := hu.split
  exact h.upd hm hr hf
theorem Upd.mem {r r' : Res} {a b : List Res} (h : Upd r r' a b) : r ∈ a := by obtain ⟨pre, post, rfl, rfl⟩ := h.split; simp
/-- What a store makes of a block's cells. -/
def StoreV (T : TypeId) (cs : List Value) (off : Nat) (v : Value) (cs' : List Value) : Prop := ∀ (w : World) (n : Nat) (t : TypeId), Blk w n cs t → ∃ w', (Instr.storeAt T (.pointer (some ⟨n, off, none⟩)) v).run Try.prog w = .ok () w' ∧ Blk w' n cs' t ∧ Mod [n] w w' ∧ OnlyAt n w w'
theorem StoreV.one {T : TypeId} {cs cs' : List Value} {off : Nat} {v : Value} (hz : look sizL T = some 1) (h1 : v.oneCell' = true) (hlt : off < cs.length) (hc : cs.set off v = cs') : StoreV T cs off v cs' := fun w n t hb => by
  subst hc
  exact ⟨_, run_store1 (sizT hz) h1 (show w.cell? ⟨n, off, none⟩ = some cs[off] by rw [hb.cell]; simp [hlt]) (hb.free off), hb.set off v, (Mod.refl _ _).setCell (fun _ => by simp) v, rfl, rfl, rfl, by simp, fun j hj => Below.heap_setCell _ _ _ _ hj⟩
theorem StoreV.many {T : TypeId} {cs cs' vs : List Value} {off : Nat} (hz : look sizL T = some vs.length) (h1 : vs.all (·.oneCell') = true) (hlt : off + vs.length ≤ cs.length) (hc : cs.take off ++ vs ++ cs.drop (off + vs.length) = cs') : StoreV T cs off (.agg vs.toArray) cs' := fun w n t hb => by
  subst hc
  exact ⟨_, run_storeN (sizT hz) (by simpa using h1) hb hlt, setRow_heap w n _ _ _ _ hb, ⟨rfl, rfl, rfl, by simp, fun j hj hn => setRow_other w n j _ (by simpa using hn)⟩, rfl, rfl, rfl, by simp, fun j hj => setRow_other w n j _ hj⟩
theorem seqS_store {T : TypeId} {x y : Operand} {n off : Nat} {v : Value} {cs cs' : List Value} {t : TypeId} {rs' : List Res} (hw : Region.wanted ⟨none, .store T x y, ty, pos, aft, gd⟩ (yielded ops l.toArray) = true)
    (hx : opnd l x = some (.pointer (some ⟨n, off, none⟩))) (hy : opnd l y = some v) (hu : Upd (blk n cs t) (blk n cs' t) rs rs') (hv : StoreV T cs off v cs')
    (h : seqS Try.prog w0 S ops Q rest ⟨l.toArray, ds⟩ rs') : seqS Try.prog w0 S ops Q (⟨none, .store T x y, ty, pos, aft, gd⟩ :: rest) ⟨l.toArray, ds⟩ rs :=
  seqS_put hw rfl (fun w hs => by
    obtain ⟨w', hr, hb, hm, _⟩ := hv w n t (hs.all _ hu.mem)
    refine ⟨w', ?_, hs.updU hu hm hb (by simp [blk])⟩
    simp only [execOp, opnd_eval hx, opnd_eval hy, Sem.run_bind, hr]
    rfl) h
theorem RV.load {T : TypeId} {a : Tmp} {n off : Nat} {v : Value} {cs : List Value} {t : TypeId} (ha : opnd l (.tmp a) = some (.pointer (some ⟨n, off, none⟩))) (hm : blk n cs t ∈ rs) (hv : LoadV T cs off v) : RV Try.prog w0 S rs l (.cell a T) v := fun w hs => by
  have := hv w n t (hs.all _ hm)
  simp only [opnd] at ha
  simp only [Instr.loadAt, Instr.sureAddr, Sem.run_bind, Sem.run_pure, Result.andThen_ok] at this
  simp only [rvar, Array.getD_eq_getD_getElem?, List.getElem?_toArray, ha, Option.getD_some, asAddr, Sem.run_bind, Sem.run_pure, Result.andThen_ok, this]
/-- A call that turns one thing. -/
theorem seqS_callU {f : FuncId} {xs : List Operand} {ts : Array TypeId} {vs : List Value} {v : Value} {r r' : Res} {rs' : List Res} (hw : Region.wanted ⟨some d, .call { callee := .value (.func f), args := xs.toArray, argTypes := ts }, ty, pos, aft, gd⟩ (yielded ops l.toArray) = true)
    (hx : opnds l xs = some vs) (hf : look calL f = some ()) (hu : Upd r r' rs rs') (hff : r'.foot = r.foot)
    (hc : ∀ w, Sep w0 S rs w → r.holds w → Calls Try.prog f vs.toArray w (fun e w' => e = .returned v ∧ r'.holds w' ∧ Mod r.foot w w')) (hl : l.set d v = l')
    (h : seqS Try.prog w0 S ops Q rest ⟨l'.toArray, ds⟩ rs') :
    seqS Try.prog w0 S ops Q (⟨some d, .call { callee := .value (.func f), args := xs.toArray, argTypes := ts }, ty, pos, aft, gd⟩ :: rest) ⟨l.toArray, ds⟩ rs :=
  seqS_call (Φ := fun u q => u = v ∧ q = rs') hw hx (fun w => run_call hx hf w) (fun w hs => (hc w hs (hs.all _ hu.mem)).mono fun e w' ⟨he, hr, hm⟩ => ⟨v, _, he, ⟨rfl, rfl⟩, hs.updU hu hm hr (by rw [hff]; exact fun n hn => .inl hn)⟩)
    (fun u q l2 hl2 ⟨hu, hq⟩ => by subst hu; subst hq; rw [hl] at hl2; subst hl2; exact h)
/-- A call of a function value. -/
theorem run_callv {x : Operand} {f : FuncId} {first caps : List Value} {xs : List Operand} {ts : Array TypeId} {vs all : List Value} (hf : opnd l x = some (.func (.func f) first.toArray caps.toArray)) (hx : opnds l xs = some vs) (h : look calL f = some ()) (ha : first ++ vs ++ caps = all) (w : World) :
    (execOp (Act.eval ⟨l.toArray, ds⟩) ⟨dt, .call { callee := .value x, args := xs.toArray, argTypes := ts }, ty, pos, aft, gd⟩).run Try.prog w = .ok (.enter f all.toArray) w := by
  have key : ∀ (xs : List Operand) (vs : List Value), opnds l xs = some vs → xs.map (Act.eval ⟨l.toArray, ds⟩) = vs := by
    intro xs
    induction xs with
    | nil => intro vs h; simp only [opnds] at h; injection h
    | cons x xs ih =>
      intro vs h
      simp only [opnds] at h
      split at h
      · rename_i v us h1 h2
        injection h with h
        subst h
        rw [List.map_cons, opnd_eval h1, ih us h2]
      · cases h
  subst ha
  simp only [execOp, Sem.run_bind, resolve, opnd_eval hf, Deferred.ofValue, List.map_toArray, key xs vs hx, Sem.run_pure, Result.andThen_ok, invoke]
  have := calAll _ (look_mem h) (first ++ vs ++ caps).toArray w
  simpa using this
theorem seqS_enter0 {o : Oper} {f : FuncId} {vs : List Value} {v : Value} (hw : Region.wanted o (yielded ops l.toArray) = true) (hd : o.dst = some d) (he : ∀ w, (execOp (Act.eval ⟨l.toArray, ds⟩) o).run Try.prog w = .ok (.enter f vs.toArray) w)
    (hc : ∀ w, Sep w0 S rs w → Calls Try.prog f vs.toArray w (fun e w' => e = .returned v ∧ Mod [] w w')) (hl : l.set d v = l')
    (h : seqS Try.prog w0 S ops Q rest ⟨l'.toArray, ds⟩ rs) : seqS Try.prog w0 S ops Q (o :: rest) ⟨l.toArray, ds⟩ rs :=
  seqS_act (Φ := fun u rs' => u = v ∧ rs' = rs) hw (fun w hs => by
    rw [he w]
    refine (hc w hs).mono ?_
    rintro e w' ⟨rfl, hm⟩
    exact ⟨v, rs, rfl, ⟨rfl, rfl⟩, hs.garb hm⟩) (fun u rs' ⟨hu, hr⟩ => by
    subst hu; subst hr
    rw [hd, put_some hl]; exact h)
section ord
variable {rsS : St} {B : Nat} {gl gl' : GL} {i : Nat} {orest : List Nat} {ol : List Oper}
inductive UpdG (n : Nat) (x y : List Value × TypeId) : GL → GL → Prop
  | head {tl : GL} : UpdG n x y ((n, x) :: tl) ((n, y) :: tl)
  | tail {z : Nat × List Value × TypeId} {tl tl' : GL} : UpdG n x y tl tl' → UpdG n x y (z :: tl) (z :: tl')
theorem UpdG.at {n : Nat} {x y : List Value × TypeId} {a b : GL} (h : UpdG n x y a b) : ∃ k, a[k]? = some (n, x) ∧ b = a.set k (n, y) := by
  induction h with
  | head => exact ⟨0, rfl, rfl⟩
  | tail _ ih => obtain ⟨k, h1, rfl⟩ := ih; exact ⟨k + 1, by simpa using h1, rfl⟩
theorem ordS_put {T : TypeId} {x y : Operand} {n off : Nat} {v : Value} {cs cs' : List Value} {t : TypeId} (ho : ol[i]? = some ⟨none, .store T x y, ty, pos, aft, gd⟩)
    (hw : Region.wanted ⟨none, .store T x y, ty, pos, aft, gd⟩ (yielded ol.toArray l.toArray) = true) (hx : opnd l x = some (.pointer (some ⟨n, off, none⟩))) (hy : opnd l y = some v) (hu : UpdG n (cs, t) (cs', t) gl gl') (hv : StoreV T cs off v cs')
    (h : ordS Try.prog w0 S Q rsS B ol.toArray orest l ds gl' rs) : ordS Try.prog w0 S Q rsS B ol.toArray (i :: orest) l ds gl rs := fun hnd hi => by
  obtain ⟨k, hk, rfl⟩ := hu.at
  refine ord_put (lookL ho) hw rfl rfl n cs t cs' (ghOf_get hnd hk) (fun w hb => ?_) ?_
  · obtain ⟨w', hr, hb', _, ho'⟩ := hv w n t hb
    refine ⟨w', .inr ?_, ho', hb'⟩
    simp only [execOp, opnd_eval hx, opnd_eval hy, Sem.run_bind, hr]
    rfl
  · rw [← ghOf_set hnd hk]
    exact h (by rw [keys_set hk]; exact hnd) hi
end ord
theorem run_alloc {T : TypeId} {cs : List Value} (h : look zerL T = some cs) (w : World) :
    (execOp (Act.eval ⟨l.toArray, ds⟩) ⟨dt, .alloc T, ty, pos, aft, gd⟩).run Try.prog w = .ok (.value (.pointer (some ⟨w.heap.size, 0, none⟩))) (w.alloc (.cells cs.toArray T)) := by
  obtain ⟨z, hz, hc⟩ := zerAll _ (look_mem h) w
  simp only [execOp, Sem.run_bind, Instr.alloc, hz, Result.andThen_ok, newVar, newRow, run_newObj_alloc, Sem.run_pure]
  rw [← hc]
end
end Go.Proofs.Ytllhoadbocnldaa
