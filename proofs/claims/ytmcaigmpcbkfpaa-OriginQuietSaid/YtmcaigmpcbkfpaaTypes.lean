/- The program's types and functions as tables, for the walk: closed facts, each out of the loaded program. -/
import Derived.Test.YtmcaigmpcbkfpaaDraw
set_option linter.unusedVariables false
set_option linter.unusedSimpArgs false
set_option maxRecDepth 100000
namespace Go.Proofs.Ytmcaigmpcbkfpaa
open Go.RowKit
def look {α : Type} : List (Nat × α) → Nat → Option α
  | [], _ => none
  | (a, b) :: r, n => bif Nat.beq a n then some b else look r n
theorem look_mem {α : Type} : ∀ {l : List (Nat × α)} {n : Nat} {x : α}, look l n = some x → (n, x) ∈ l
  | [], _, _, h => by cases h
  | (a, b) :: r, n, x, h => by
    unfold look at h
    cases e : Nat.beq a n with
    | true => rw [e] at h; injection h with h; subst h; rw [Nat.eq_of_beq_eq_true e]; exact List.mem_cons_self
    | false => rw [e] at h; exact List.mem_cons_of_mem _ (look_mem h)
def aggL : List (Nat × Bool) := [(0, false), (1, false), (2, false), (3, false), (4, false), (5, false), (6, false), (7, true), (8, true), (9, false), (10, false), (11, false), (12, false), (13, true), (14, true), (15, false), (16, false), (17, false), (18, true), (19, true), (20, false), (21, false), (22, false), (23, false), (24, true), (25, true), (26, false), (27, false), (28, false), (29, false), (30, true), (31, true), (32, false), (33, false), (34, false), (35, true), (36, true), (37, false), (38, false), (39, true), (40, true), (41, false), (42, false), (43, false), (44, false), (45, false), (46, false), (47, false), (48, false), (49, false), (50, true), (51, true), (52, false), (53, false), (54, true), (55, true), (56, true), (57, true), (58, false), (59, false), (60, false), (61, false), (62, false), (63, false), (64, false), (65, false), (66, false), (67, false), (68, false), (69, false), (70, false), (71, false), (72, false), (73, false), (74, false), (75, true), (76, true), (77, false), (78, false), (79, true), (80, true), (81, false), (82, false), (83, true), (84, true), (85, true), (86, true), (87, false), (88, false), (89, false), (90, false), (91, false), (92, false), (93, false), (94, false), (95, false), (96, false), (97, false), (98, true), (99, false), (100, false), (101, false), (102, false), (103, false), (104, false), (105, true), (106, false), (107, false), (108, false), (109, true), (110, true), (111, true), (112, false), (113, false), (114, false), (115, false), (116, false), (117, false), (118, false), (119, false), (120, false), (121, false), (122, false), (123, false), (124, false), (125, false), (126, false), (127, true), (128, true), (129, false), (130, true), (131, true), (132, true), (133, false), (134, false), (135, false), (136, false), (137, false), (138, false), (139, false), (140, false), (141, false), (142, false), (143, false), (144, false), (145, false), (146, false), (147, false), (148, false), (149, false), (150, false), (151, true), (152, true), (153, true), (154, true), (155, true), (156, false), (157, false), (158, false), (159, false), (160, false), (161, true), (162, true)]
set_option maxRecDepth 100000 in
theorem aggAll : ∀ x ∈ aggL, ∀ w, (isAgg x.1).run Try.prog w = .ok x.2 w :=
  (List.forall_mem_cons.2 ⟨Try.isAgg0, (List.forall_mem_cons.2 ⟨Try.isAgg1, (List.forall_mem_cons.2 ⟨Try.isAgg2, (List.forall_mem_cons.2 ⟨Try.isAgg3, (List.forall_mem_cons.2 ⟨Try.isAgg4, (List.forall_mem_cons.2 ⟨Try.isAgg5, (List.forall_mem_cons.2 ⟨Try.isAgg6, (List.forall_mem_cons.2 ⟨Try.isAgg7, (List.forall_mem_cons.2 ⟨Try.isAgg8, (List.forall_mem_cons.2 ⟨Try.isAgg9, (List.forall_mem_cons.2 ⟨Try.isAgg10, (List.forall_mem_cons.2 ⟨Try.isAgg11, (List.forall_mem_cons.2 ⟨Try.isAgg12, (List.forall_mem_cons.2 ⟨Try.isAgg13, (List.forall_mem_cons.2 ⟨Try.isAgg14, (List.forall_mem_cons.2 ⟨Try.isAgg15, (List.forall_mem_cons.2 ⟨Try.isAgg16, (List.forall_mem_cons.2 ⟨Try.isAgg17, (List.forall_mem_cons.2 ⟨Try.isAgg18, (List.forall_mem_cons.2 ⟨Try.isAgg19, (List.forall_mem_cons.2 ⟨Try.isAgg20, (List.forall_mem_cons.2 ⟨Try.isAgg21, (List.forall_mem_cons.2 ⟨Try.isAgg22, (List.forall_mem_cons.2 ⟨Try.isAgg23, (List.forall_mem_cons.2 ⟨Try.isAgg24, (List.forall_mem_cons.2 ⟨Try.isAgg25, (List.forall_mem_cons.2 ⟨Try.isAgg26, (List.forall_mem_cons.2 ⟨Try.isAgg27, (List.forall_mem_cons.2 ⟨Try.isAgg28, (List.forall_mem_cons.2 ⟨Try.isAgg29, (List.forall_mem_cons.2 ⟨Try.isAgg30, (List.forall_mem_cons.2 ⟨Try.isAgg31, (List.forall_mem_cons.2 ⟨Try.isAgg32, (List.forall_mem_cons.2 ⟨Try.isAgg33, (List.forall_mem_cons.2 ⟨Try.isAgg34, (List.forall_mem_cons.2 ⟨Try.isAgg35, (List.forall_mem_cons.2 ⟨Try.isAgg36, (List.forall_mem_cons.2 ⟨Try.isAgg37, (List.forall_mem_cons.2 ⟨Try.isAgg38, (List.forall_mem_cons.2 ⟨Try.isAgg39, (List.forall_mem_cons.2 ⟨Try.isAgg40, (List.forall_mem_cons.2 ⟨Try.isAgg41, (List.forall_mem_cons.2 ⟨Try.isAgg42, (List.forall_mem_cons.2 ⟨Try.isAgg43, (List.forall_mem_cons.2 ⟨Try.isAgg44, (List.forall_mem_cons.2 ⟨Try.isAgg45, (List.forall_mem_cons.2 ⟨Try.isAgg46, (List.forall_mem_cons.2 ⟨Try.isAgg47, (List.forall_mem_cons.2 ⟨Try.isAgg48, (List.forall_mem_cons.2 ⟨Try.isAgg49, (List.forall_mem_cons.2 ⟨Try.isAgg50, (List.forall_mem_cons.2 ⟨Try.isAgg51, (List.forall_mem_cons.2 ⟨Try.isAgg52, (List.forall_mem_cons.2 ⟨Try.isAgg53, (List.forall_mem_cons.2 ⟨Try.isAgg54, (List.forall_mem_cons.2 ⟨Try.isAgg55, (List.forall_mem_cons.2 ⟨Try.isAgg56, (List.forall_mem_cons.2 ⟨Try.isAgg57, (List.forall_mem_cons.2 ⟨Try.isAgg58, (List.forall_mem_cons.2 ⟨Try.isAgg59, (List.forall_mem_cons.2 ⟨Try.isAgg60, (List.forall_mem_cons.2 ⟨Try.isAgg61, (List.forall_mem_cons.2 ⟨Try.isAgg62, (List.forall_mem_cons.2 ⟨Try.isAgg63, (List.forall_mem_cons.2 ⟨Try.isAgg64, (List.forall_mem_cons.2 ⟨Try.isAgg65, (List.forall_mem_cons.2 ⟨Try.isAgg66, (List.forall_mem_cons.2 ⟨Try.isAgg67, (List.forall_mem_cons.2 ⟨Try.isAgg68, (List.forall_mem_cons.2 ⟨Try.isAgg69, (List.forall_mem_cons.2 ⟨Try.isAgg70, (List.forall_mem_cons.2 ⟨Try.isAgg71, (List.forall_mem_cons.2 ⟨Try.isAgg72, (List.forall_mem_cons.2 ⟨Try.isAgg73, (List.forall_mem_cons.2 ⟨Try.isAgg74, (List.forall_mem_cons.2 ⟨Try.isAgg75, (List.forall_mem_cons.2 ⟨Try.isAgg76, (List.forall_mem_cons.2 ⟨Try.isAgg77, (List.forall_mem_cons.2 ⟨Try.isAgg78, (List.forall_mem_cons.2 ⟨Try.isAgg79, (List.forall_mem_cons.2 ⟨Try.isAgg80, (List.forall_mem_cons.2 ⟨Try.isAgg81, (List.forall_mem_cons.2 ⟨Try.isAgg82, (List.forall_mem_cons.2 ⟨Try.isAgg83, (List.forall_mem_cons.2 ⟨Try.isAgg84, (List.forall_mem_cons.2 ⟨Try.isAgg85, (List.forall_mem_cons.2 ⟨Try.isAgg86, (List.forall_mem_cons.2 ⟨Try.isAgg87, (List.forall_mem_cons.2 ⟨Try.isAgg88, (List.forall_mem_cons.2 ⟨Try.isAgg89, (List.forall_mem_cons.2 ⟨Try.isAgg90, (List.forall_mem_cons.2 ⟨Try.isAgg91, (List.forall_mem_cons.2 ⟨Try.isAgg92, (List.forall_mem_cons.2 ⟨Try.isAgg93, (List.forall_mem_cons.2 ⟨Try.isAgg94, (List.forall_mem_cons.2 ⟨Try.isAgg95, (List.forall_mem_cons.2 ⟨Try.isAgg96, (List.forall_mem_cons.2 ⟨Try.isAgg97, (List.forall_mem_cons.2 ⟨Try.isAgg98, (List.forall_mem_cons.2 ⟨Try.isAgg99, (List.forall_mem_cons.2 ⟨Try.isAgg100, (List.forall_mem_cons.2 ⟨Try.isAgg101, (List.forall_mem_cons.2 ⟨Try.isAgg102, (List.forall_mem_cons.2 ⟨Try.isAgg103, (List.forall_mem_cons.2 ⟨Try.isAgg104, (List.forall_mem_cons.2 ⟨Try.isAgg105, (List.forall_mem_cons.2 ⟨Try.isAgg106, (List.forall_mem_cons.2 ⟨Try.isAgg107, (List.forall_mem_cons.2 ⟨Try.isAgg108, (List.forall_mem_cons.2 ⟨Try.isAgg109, (List.forall_mem_cons.2 ⟨Try.isAgg110, (List.forall_mem_cons.2 ⟨Try.isAgg111, (List.forall_mem_cons.2 ⟨Try.isAgg112, (List.forall_mem_cons.2 ⟨Try.isAgg113, (List.forall_mem_cons.2 ⟨Try.isAgg114, (List.forall_mem_cons.2 ⟨Try.isAgg115, (List.forall_mem_cons.2 ⟨Try.isAgg116, (List.forall_mem_cons.2 ⟨Try.isAgg117, (List.forall_mem_cons.2 ⟨Try.isAgg118, (List.forall_mem_cons.2 ⟨Try.isAgg119, (List.forall_mem_cons.2 ⟨Try.isAgg120, (List.forall_mem_cons.2 ⟨Try.isAgg121, (List.forall_mem_cons.2 ⟨Try.isAgg122, (List.forall_mem_cons.2 ⟨Try.isAgg123, (List.forall_mem_cons.2 ⟨Try.isAgg124, (List.forall_mem_cons.2 ⟨Try.isAgg125, (List.forall_mem_cons.2 ⟨Try.isAgg126, (List.forall_mem_cons.2 ⟨Try.isAgg127, (List.forall_mem_cons.2 ⟨Try.isAgg128, (List.forall_mem_cons.2 ⟨Try.isAgg129, (List.forall_mem_cons.2 ⟨Try.isAgg130, (List.forall_mem_cons.2 ⟨Try.isAgg131, (List.forall_mem_cons.2 ⟨Try.isAgg132, (List.forall_mem_cons.2 ⟨Try.isAgg133, (List.forall_mem_cons.2 ⟨Try.isAgg134, (List.forall_mem_cons.2 ⟨Try.isAgg135, (List.forall_mem_cons.2 ⟨Try.isAgg136, (List.forall_mem_cons.2 ⟨Try.isAgg137, (List.forall_mem_cons.2 ⟨Try.isAgg138, (List.forall_mem_cons.2 ⟨Try.isAgg139, (List.forall_mem_cons.2 ⟨Try.isAgg140, (List.forall_mem_cons.2 ⟨Try.isAgg141, (List.forall_mem_cons.2 ⟨Try.isAgg142, (List.forall_mem_cons.2 ⟨Try.isAgg143, (List.forall_mem_cons.2 ⟨Try.isAgg144, (List.forall_mem_cons.2 ⟨Try.isAgg145, (List.forall_mem_cons.2 ⟨Try.isAgg146, (List.forall_mem_cons.2 ⟨Try.isAgg147, (List.forall_mem_cons.2 ⟨Try.isAgg148, (List.forall_mem_cons.2 ⟨Try.isAgg149, (List.forall_mem_cons.2 ⟨Try.isAgg150, (List.forall_mem_cons.2 ⟨Try.isAgg151, (List.forall_mem_cons.2 ⟨Try.isAgg152, (List.forall_mem_cons.2 ⟨Try.isAgg153, (List.forall_mem_cons.2 ⟨Try.isAgg154, (List.forall_mem_cons.2 ⟨Try.isAgg155, (List.forall_mem_cons.2 ⟨Try.isAgg156, (List.forall_mem_cons.2 ⟨Try.isAgg157, (List.forall_mem_cons.2 ⟨Try.isAgg158, (List.forall_mem_cons.2 ⟨Try.isAgg159, (List.forall_mem_cons.2 ⟨Try.isAgg160, (List.forall_mem_cons.2 ⟨Try.isAgg161, (List.forall_mem_cons.2 ⟨Try.isAgg162, (List.forall_mem_nil _)⟩)⟩)⟩)⟩)⟩)⟩)⟩)⟩)⟩)⟩)⟩)⟩)⟩)⟩)⟩)⟩)⟩)⟩)⟩)⟩)⟩)⟩)⟩)⟩)⟩)⟩)⟩)⟩)⟩)⟩)⟩)⟩)⟩)⟩)⟩)⟩)⟩)⟩)⟩)⟩)⟩)⟩)⟩)⟩)⟩)⟩)⟩)⟩)⟩)⟩)⟩)⟩)⟩)⟩)⟩)⟩)⟩)⟩)⟩)⟩)⟩)⟩)⟩)⟩)⟩)⟩)⟩)⟩)⟩)⟩)⟩)⟩)⟩)⟩)⟩)⟩)⟩)⟩)⟩)⟩)⟩)⟩)⟩)⟩)⟩)⟩)⟩)⟩)⟩)⟩)⟩)⟩)⟩)⟩)⟩)⟩)⟩)⟩)⟩)⟩)⟩)⟩)⟩)⟩)⟩)⟩)⟩)⟩)⟩)⟩)⟩)⟩)⟩)⟩)⟩)⟩)⟩)⟩)⟩)⟩)⟩)⟩)⟩)⟩)⟩)⟩)⟩)⟩)⟩)⟩)⟩)⟩)⟩)⟩)⟩)⟩)⟩)⟩)⟩)⟩)⟩)⟩)⟩)⟩)⟩)⟩)⟩)⟩)⟩)⟩)⟩)⟩)⟩)⟩)⟩)⟩)⟩)⟩)⟩)⟩)⟩)⟩)⟩)
def sizL : List (Nat × Nat) := [(0, 1), (1, 1), (2, 1), (3, 1), (4, 1), (5, 1), (6, 1), (7, 4), (8, 4), (9, 1), (10, 1), (11, 1), (12, 1), (13, 2), (14, 2), (15, 1), (16, 1), (17, 1), (18, 1), (19, 1), (20, 1), (21, 1), (22, 1), (23, 1), (24, 11), (25, 11), (26, 1), (27, 1), (28, 1), (29, 1), (30, 9), (31, 9), (32, 1), (33, 1), (34, 1), (35, 4), (36, 4), (37, 1), (38, 1), (39, 5), (40, 5), (41, 1), (42, 1), (43, 1), (44, 1), (45, 1), (46, 1), (47, 1), (48, 1), (49, 1), (50, 16), (51, 16), (52, 1), (53, 1), (54, 2), (55, 2), (56, 3), (57, 3), (58, 1), (59, 1), (60, 1), (61, 1), (62, 1), (63, 1), (64, 1), (65, 1), (66, 1), (67, 1), (68, 1), (69, 1), (70, 1), (71, 1), (72, 1), (73, 1), (74, 1), (75, 2), (76, 2), (77, 1), (78, 1), (79, 1), (80, 1), (81, 1), (82, 1), (83, 2), (84, 2), (85, 3), (86, 3), (87, 1), (88, 1), (89, 1), (90, 1), (91, 1), (92, 1), (93, 1), (94, 1), (95, 1), (96, 1), (97, 1), (98, 4), (99, 1), (100, 1), (101, 1), (102, 1), (103, 1), (104, 1), (105, 5), (106, 1), (107, 1), (108, 1), (109, 2), (110, 2), (111, 10), (112, 1), (113, 1), (114, 1), (115, 1), (116, 1), (117, 1), (118, 1), (119, 1), (120, 1), (121, 1), (122, 1), (123, 1), (124, 1), (125, 1), (126, 1), (127, 15), (128, 15), (129, 1), (130, 3), (131, 2), (132, 2), (133, 1), (134, 1), (135, 1), (136, 1), (137, 1), (138, 1), (139, 1), (140, 1), (141, 1), (142, 1), (143, 1), (144, 1), (145, 1), (146, 1), (147, 1), (148, 1), (149, 1), (150, 1), (151, 4), (152, 4), (153, 0), (154, 0), (155, 0), (156, 1), (157, 1), (158, 1), (159, 1), (160, 1), (161, 11), (162, 11)]
set_option maxRecDepth 100000 in
theorem sizAll : ∀ x ∈ sizL, ∀ w, (sizeOf x.1).run Try.prog w = .ok x.2 w :=
  (List.forall_mem_cons.2 ⟨Try.sizeOf0, (List.forall_mem_cons.2 ⟨Try.sizeOf1, (List.forall_mem_cons.2 ⟨Try.sizeOf2, (List.forall_mem_cons.2 ⟨Try.sizeOf3, (List.forall_mem_cons.2 ⟨Try.sizeOf4, (List.forall_mem_cons.2 ⟨Try.sizeOf5, (List.forall_mem_cons.2 ⟨Try.sizeOf6, (List.forall_mem_cons.2 ⟨Try.sizeOf7, (List.forall_mem_cons.2 ⟨Try.sizeOf8, (List.forall_mem_cons.2 ⟨Try.sizeOf9, (List.forall_mem_cons.2 ⟨Try.sizeOf10, (List.forall_mem_cons.2 ⟨Try.sizeOf11, (List.forall_mem_cons.2 ⟨Try.sizeOf12, (List.forall_mem_cons.2 ⟨Try.sizeOf13, (List.forall_mem_cons.2 ⟨Try.sizeOf14, (List.forall_mem_cons.2 ⟨Try.sizeOf15, (List.forall_mem_cons.2 ⟨Try.sizeOf16, (List.forall_mem_cons.2 ⟨Try.sizeOf17, (List.forall_mem_cons.2 ⟨Try.sizeOf18, (List.forall_mem_cons.2 ⟨Try.sizeOf19, (List.forall_mem_cons.2 ⟨Try.sizeOf20, (List.forall_mem_cons.2 ⟨Try.sizeOf21, (List.forall_mem_cons.2 ⟨Try.sizeOf22, (List.forall_mem_cons.2 ⟨Try.sizeOf23, (List.forall_mem_cons.2 ⟨Try.sizeOf24, (List.forall_mem_cons.2 ⟨Try.sizeOf25, (List.forall_mem_cons.2 ⟨Try.sizeOf26, (List.forall_mem_cons.2 ⟨Try.sizeOf27, (List.forall_mem_cons.2 ⟨Try.sizeOf28, (List.forall_mem_cons.2 ⟨Try.sizeOf29, (List.forall_mem_cons.2 ⟨Try.sizeOf30, (List.forall_mem_cons.2 ⟨Try.sizeOf31, (List.forall_mem_cons.2 ⟨Try.sizeOf32, (List.forall_mem_cons.2 ⟨Try.sizeOf33, (List.forall_mem_cons.2 ⟨Try.sizeOf34, (List.forall_mem_cons.2 ⟨Try.sizeOf35, (List.forall_mem_cons.2 ⟨Try.sizeOf36, (List.forall_mem_cons.2 ⟨Try.sizeOf37, (List.forall_mem_cons.2 ⟨Try.sizeOf38, (List.forall_mem_cons.2 ⟨Try.sizeOf39, (List.forall_mem_cons.2 ⟨Try.sizeOf40, (List.forall_mem_cons.2 ⟨Try.sizeOf41, (List.forall_mem_cons.2 ⟨Try.sizeOf42, (List.forall_mem_cons.2 ⟨Try.sizeOf43, (List.forall_mem_cons.2 ⟨Try.sizeOf44, (List.forall_mem_cons.2 ⟨Try.sizeOf45, (List.forall_mem_cons.2 ⟨Try.sizeOf46, (List.forall_mem_cons.2 ⟨Try.sizeOf47, (List.forall_mem_cons.2 ⟨Try.sizeOf48, (List.forall_mem_cons.2 ⟨Try.sizeOf49, (List.forall_mem_cons.2 ⟨Try.sizeOf50, (List.forall_mem_cons.2 ⟨Try.sizeOf51, (List.forall_mem_cons.2 ⟨Try.sizeOf52, (List.forall_mem_cons.2 ⟨Try.sizeOf53, (List.forall_mem_cons.2 ⟨Try.sizeOf54, (List.forall_mem_cons.2 ⟨Try.sizeOf55, (List.forall_mem_cons.2 ⟨Try.sizeOf56, (List.forall_mem_cons.2 ⟨Try.sizeOf57, (List.forall_mem_cons.2 ⟨Try.sizeOf58, (List.forall_mem_cons.2 ⟨Try.sizeOf59, (List.forall_mem_cons.2 ⟨Try.sizeOf60, (List.forall_mem_cons.2 ⟨Try.sizeOf61, (List.forall_mem_cons.2 ⟨Try.sizeOf62, (List.forall_mem_cons.2 ⟨Try.sizeOf63, (List.forall_mem_cons.2 ⟨Try.sizeOf64, (List.forall_mem_cons.2 ⟨Try.sizeOf65, (List.forall_mem_cons.2 ⟨Try.sizeOf66, (List.forall_mem_cons.2 ⟨Try.sizeOf67, (List.forall_mem_cons.2 ⟨Try.sizeOf68, (List.forall_mem_cons.2 ⟨Try.sizeOf69, (List.forall_mem_cons.2 ⟨Try.sizeOf70, (List.forall_mem_cons.2 ⟨Try.sizeOf71, (List.forall_mem_cons.2 ⟨Try.sizeOf72, (List.forall_mem_cons.2 ⟨Try.sizeOf73, (List.forall_mem_cons.2 ⟨Try.sizeOf74, (List.forall_mem_cons.2 ⟨Try.sizeOf75, (List.forall_mem_cons.2 ⟨Try.sizeOf76, (List.forall_mem_cons.2 ⟨Try.sizeOf77, (List.forall_mem_cons.2 ⟨Try.sizeOf78, (List.forall_mem_cons.2 ⟨Try.sizeOf79, (List.forall_mem_cons.2 ⟨Try.sizeOf80, (List.forall_mem_cons.2 ⟨Try.sizeOf81, (List.forall_mem_cons.2 ⟨Try.sizeOf82, (List.forall_mem_cons.2 ⟨Try.sizeOf83, (List.forall_mem_cons.2 ⟨Try.sizeOf84, (List.forall_mem_cons.2 ⟨Try.sizeOf85, (List.forall_mem_cons.2 ⟨Try.sizeOf86, (List.forall_mem_cons.2 ⟨Try.sizeOf87, (List.forall_mem_cons.2 ⟨Try.sizeOf88, (List.forall_mem_cons.2 ⟨Try.sizeOf89, (List.forall_mem_cons.2 ⟨Try.sizeOf90, (List.forall_mem_cons.2 ⟨Try.sizeOf91, (List.forall_mem_cons.2 ⟨Try.sizeOf92, (List.forall_mem_cons.2 ⟨Try.sizeOf93, (List.forall_mem_cons.2 ⟨Try.sizeOf94, (List.forall_mem_cons.2 ⟨Try.sizeOf95, (List.forall_mem_cons.2 ⟨Try.sizeOf96, (List.forall_mem_cons.2 ⟨Try.sizeOf97, (List.forall_mem_cons.2 ⟨Try.sizeOf98, (List.forall_mem_cons.2 ⟨Try.sizeOf99, (List.forall_mem_cons.2 ⟨Try.sizeOf100, (List.forall_mem_cons.2 ⟨Try.sizeOf101, (List.forall_mem_cons.2 ⟨Try.sizeOf102, (List.forall_mem_cons.2 ⟨Try.sizeOf103, (List.forall_mem_cons.2 ⟨Try.sizeOf104, (List.forall_mem_cons.2 ⟨Try.sizeOf105, (List.forall_mem_cons.2 ⟨Try.sizeOf106, (List.forall_mem_cons.2 ⟨Try.sizeOf107, (List.forall_mem_cons.2 ⟨Try.sizeOf108, (List.forall_mem_cons.2 ⟨Try.sizeOf109, (List.forall_mem_cons.2 ⟨Try.sizeOf110, (List.forall_mem_cons.2 ⟨Try.sizeOf111, (List.forall_mem_cons.2 ⟨Try.sizeOf112, (List.forall_mem_cons.2 ⟨Try.sizeOf113, (List.forall_mem_cons.2 ⟨Try.sizeOf114, (List.forall_mem_cons.2 ⟨Try.sizeOf115, (List.forall_mem_cons.2 ⟨Try.sizeOf116, (List.forall_mem_cons.2 ⟨Try.sizeOf117, (List.forall_mem_cons.2 ⟨Try.sizeOf118, (List.forall_mem_cons.2 ⟨Try.sizeOf119, (List.forall_mem_cons.2 ⟨Try.sizeOf120, (List.forall_mem_cons.2 ⟨Try.sizeOf121, (List.forall_mem_cons.2 ⟨Try.sizeOf122, (List.forall_mem_cons.2 ⟨Try.sizeOf123, (List.forall_mem_cons.2 ⟨Try.sizeOf124, (List.forall_mem_cons.2 ⟨Try.sizeOf125, (List.forall_mem_cons.2 ⟨Try.sizeOf126, (List.forall_mem_cons.2 ⟨Try.sizeOf127, (List.forall_mem_cons.2 ⟨Try.sizeOf128, (List.forall_mem_cons.2 ⟨Try.sizeOf129, (List.forall_mem_cons.2 ⟨Try.sizeOf130, (List.forall_mem_cons.2 ⟨Try.sizeOf131, (List.forall_mem_cons.2 ⟨Try.sizeOf132, (List.forall_mem_cons.2 ⟨Try.sizeOf133, (List.forall_mem_cons.2 ⟨Try.sizeOf134, (List.forall_mem_cons.2 ⟨Try.sizeOf135, (List.forall_mem_cons.2 ⟨Try.sizeOf136, (List.forall_mem_cons.2 ⟨Try.sizeOf137, (List.forall_mem_cons.2 ⟨Try.sizeOf138, (List.forall_mem_cons.2 ⟨Try.sizeOf139, (List.forall_mem_cons.2 ⟨Try.sizeOf140, (List.forall_mem_cons.2 ⟨Try.sizeOf141, (List.forall_mem_cons.2 ⟨Try.sizeOf142, (List.forall_mem_cons.2 ⟨Try.sizeOf143, (List.forall_mem_cons.2 ⟨Try.sizeOf144, (List.forall_mem_cons.2 ⟨Try.sizeOf145, (List.forall_mem_cons.2 ⟨Try.sizeOf146, (List.forall_mem_cons.2 ⟨Try.sizeOf147, (List.forall_mem_cons.2 ⟨Try.sizeOf148, (List.forall_mem_cons.2 ⟨Try.sizeOf149, (List.forall_mem_cons.2 ⟨Try.sizeOf150, (List.forall_mem_cons.2 ⟨Try.sizeOf151, (List.forall_mem_cons.2 ⟨Try.sizeOf152, (List.forall_mem_cons.2 ⟨Try.sizeOf153, (List.forall_mem_cons.2 ⟨Try.sizeOf154, (List.forall_mem_cons.2 ⟨Try.sizeOf155, (List.forall_mem_cons.2 ⟨Try.sizeOf156, (List.forall_mem_cons.2 ⟨Try.sizeOf157, (List.forall_mem_cons.2 ⟨Try.sizeOf158, (List.forall_mem_cons.2 ⟨Try.sizeOf159, (List.forall_mem_cons.2 ⟨Try.sizeOf160, (List.forall_mem_cons.2 ⟨Try.sizeOf161, (List.forall_mem_cons.2 ⟨Try.sizeOf162, (List.forall_mem_nil _)⟩)⟩)⟩)⟩)⟩)⟩)⟩)⟩)⟩)⟩)⟩)⟩)⟩)⟩)⟩)⟩)⟩)⟩)⟩)⟩)⟩)⟩)⟩)⟩)⟩)⟩)⟩)⟩)⟩)⟩)⟩)⟩)⟩)⟩)⟩)⟩)⟩)⟩)⟩)⟩)⟩)⟩)⟩)⟩)⟩)⟩)⟩)⟩)⟩)⟩)⟩)⟩)⟩)⟩)⟩)⟩)⟩)⟩)⟩)⟩)⟩)⟩)⟩)⟩)⟩)⟩)⟩)⟩)⟩)⟩)⟩)⟩)⟩)⟩)⟩)⟩)⟩)⟩)⟩)⟩)⟩)⟩)⟩)⟩)⟩)⟩)⟩)⟩)⟩)⟩)⟩)⟩)⟩)⟩)⟩)⟩)⟩)⟩)⟩)⟩)⟩)⟩)⟩)⟩)⟩)⟩)⟩)⟩)⟩)⟩)⟩)⟩)⟩)⟩)⟩)⟩)⟩)⟩)⟩)⟩)⟩)⟩)⟩)⟩)⟩)⟩)⟩)⟩)⟩)⟩)⟩)⟩)⟩)⟩)⟩)⟩)⟩)⟩)⟩)⟩)⟩)⟩)⟩)⟩)⟩)⟩)⟩)⟩)⟩)⟩)⟩)⟩)⟩)⟩)⟩)⟩)⟩)⟩)⟩)⟩)⟩)⟩)⟩)
def calL : List (Nat × Unit) := [(2, ()), (3, ()), (4, ()), (5, ()), (6, ()), (7, ()), (8, ()), (9, ()), (10, ()), (11, ()), (12, ()), (13, ()), (14, ()), (15, ()), (16, ()), (17, ()), (18, ()), (19, ()), (20, ()), (21, ()), (22, ()), (23, ()), (24, ()), (25, ()), (26, ()), (27, ()), (28, ()), (29, ()), (30, ()), (31, ()), (32, ()), (33, ()), (34, ()), (35, ()), (36, ()), (37, ()), (38, ()), (39, ()), (40, ()), (41, ()), (42, ()), (43, ()), (44, ()), (45, ()), (46, ()), (47, ()), (48, ()), (49, ()), (50, ()), (51, ()), (52, ()), (53, ()), (54, ()), (55, ()), (56, ()), (57, ()), (58, ()), (59, ()), (60, ()), (61, ()), (62, ()), (63, ()), (64, ()), (65, ()), (66, ()), (67, ()), (68, ()), (69, ()), (70, ()), (71, ()), (72, ()), (73, ()), (74, ()), (75, ()), (76, ()), (77, ()), (78, ()), (79, ()), (80, ()), (81, ()), (82, ()), (83, ()), (84, ()), (85, ()), (86, ()), (87, ()), (88, ()), (90, ()), (91, ()), (92, ()), (93, ()), (94, ()), (95, ())]
set_option maxRecDepth 100000 in
theorem calAll : ∀ x ∈ calL, ∀ args w, (callFunc x.1 args).run Try.prog w = .ok (.enter x.1 args) w :=
  (List.forall_mem_cons.2 ⟨Try.call2, (List.forall_mem_cons.2 ⟨Try.call3, (List.forall_mem_cons.2 ⟨Try.call4, (List.forall_mem_cons.2 ⟨Try.call5, (List.forall_mem_cons.2 ⟨Try.call6, (List.forall_mem_cons.2 ⟨Try.call7, (List.forall_mem_cons.2 ⟨Try.call8, (List.forall_mem_cons.2 ⟨Try.call9, (List.forall_mem_cons.2 ⟨Try.call10, (List.forall_mem_cons.2 ⟨Try.call11, (List.forall_mem_cons.2 ⟨Try.call12, (List.forall_mem_cons.2 ⟨Try.call13, (List.forall_mem_cons.2 ⟨Try.call14, (List.forall_mem_cons.2 ⟨Try.call15, (List.forall_mem_cons.2 ⟨Try.call16, (List.forall_mem_cons.2 ⟨Try.call17, (List.forall_mem_cons.2 ⟨Try.call18, (List.forall_mem_cons.2 ⟨Try.call19, (List.forall_mem_cons.2 ⟨Try.call20, (List.forall_mem_cons.2 ⟨Try.call21, (List.forall_mem_cons.2 ⟨Try.call22, (List.forall_mem_cons.2 ⟨Try.call23, (List.forall_mem_cons.2 ⟨Try.call24, (List.forall_mem_cons.2 ⟨Try.call25, (List.forall_mem_cons.2 ⟨Try.call26, (List.forall_mem_cons.2 ⟨Try.call27, (List.forall_mem_cons.2 ⟨Try.call28, (List.forall_mem_cons.2 ⟨Try.call29, (List.forall_mem_cons.2 ⟨Try.call30, (List.forall_mem_cons.2 ⟨Try.call31, (List.forall_mem_cons.2 ⟨Try.call32, (List.forall_mem_cons.2 ⟨Try.call33, (List.forall_mem_cons.2 ⟨Try.call34, (List.forall_mem_cons.2 ⟨Try.call35, (List.forall_mem_cons.2 ⟨Try.call36, (List.forall_mem_cons.2 ⟨Try.call37, (List.forall_mem_cons.2 ⟨Try.call38, (List.forall_mem_cons.2 ⟨Try.call39, (List.forall_mem_cons.2 ⟨Try.call40, (List.forall_mem_cons.2 ⟨Try.call41, (List.forall_mem_cons.2 ⟨Try.call42, (List.forall_mem_cons.2 ⟨Try.call43, (List.forall_mem_cons.2 ⟨Try.call44, (List.forall_mem_cons.2 ⟨Try.call45, (List.forall_mem_cons.2 ⟨Try.call46, (List.forall_mem_cons.2 ⟨Try.call47, (List.forall_mem_cons.2 ⟨Try.call48, (List.forall_mem_cons.2 ⟨Try.call49, (List.forall_mem_cons.2 ⟨Try.call50, (List.forall_mem_cons.2 ⟨Try.call51, (List.forall_mem_cons.2 ⟨Try.call52, (List.forall_mem_cons.2 ⟨Try.call53, (List.forall_mem_cons.2 ⟨Try.call54, (List.forall_mem_cons.2 ⟨Try.call55, (List.forall_mem_cons.2 ⟨Try.call56, (List.forall_mem_cons.2 ⟨Try.call57, (List.forall_mem_cons.2 ⟨Try.call58, (List.forall_mem_cons.2 ⟨Try.call59, (List.forall_mem_cons.2 ⟨Try.call60, (List.forall_mem_cons.2 ⟨Try.call61, (List.forall_mem_cons.2 ⟨Try.call62, (List.forall_mem_cons.2 ⟨Try.call63, (List.forall_mem_cons.2 ⟨Try.call64, (List.forall_mem_cons.2 ⟨Try.call65, (List.forall_mem_cons.2 ⟨Try.call66, (List.forall_mem_cons.2 ⟨Try.call67, (List.forall_mem_cons.2 ⟨Try.call68, (List.forall_mem_cons.2 ⟨Try.call69, (List.forall_mem_cons.2 ⟨Try.call70, (List.forall_mem_cons.2 ⟨Try.call71, (List.forall_mem_cons.2 ⟨Try.call72, (List.forall_mem_cons.2 ⟨Try.call73, (List.forall_mem_cons.2 ⟨Try.call74, (List.forall_mem_cons.2 ⟨Try.call75, (List.forall_mem_cons.2 ⟨Try.call76, (List.forall_mem_cons.2 ⟨Try.call77, (List.forall_mem_cons.2 ⟨Try.call78, (List.forall_mem_cons.2 ⟨Try.call79, (List.forall_mem_cons.2 ⟨Try.call80, (List.forall_mem_cons.2 ⟨Try.call81, (List.forall_mem_cons.2 ⟨Try.call82, (List.forall_mem_cons.2 ⟨Try.call83, (List.forall_mem_cons.2 ⟨Try.call84, (List.forall_mem_cons.2 ⟨Try.call85, (List.forall_mem_cons.2 ⟨Try.call86, (List.forall_mem_cons.2 ⟨Try.call87, (List.forall_mem_cons.2 ⟨Try.call88, (List.forall_mem_cons.2 ⟨Try.call90, (List.forall_mem_cons.2 ⟨Try.call91, (List.forall_mem_cons.2 ⟨Try.call92, (List.forall_mem_cons.2 ⟨Try.call93, (List.forall_mem_cons.2 ⟨Try.call94, (List.forall_mem_cons.2 ⟨Try.call95, (List.forall_mem_nil _)⟩)⟩)⟩)⟩)⟩)⟩)⟩)⟩)⟩)⟩)⟩)⟩)⟩)⟩)⟩)⟩)⟩)⟩)⟩)⟩)⟩)⟩)⟩)⟩)⟩)⟩)⟩)⟩)⟩)⟩)⟩)⟩)⟩)⟩)⟩)⟩)⟩)⟩)⟩)⟩)⟩)⟩)⟩)⟩)⟩)⟩)⟩)⟩)⟩)⟩)⟩)⟩)⟩)⟩)⟩)⟩)⟩)⟩)⟩)⟩)⟩)⟩)⟩)⟩)⟩)⟩)⟩)⟩)⟩)⟩)⟩)⟩)⟩)⟩)⟩)⟩)⟩)⟩)⟩)⟩)⟩)⟩)⟩)⟩)⟩)⟩)⟩)⟩)⟩)⟩)⟩)⟩)⟩)
theorem fld_7_0 (n o : Nat) (w : World) : (Instr.fieldAt 7 (.pointer (some ⟨n, o, none⟩)) 0).run Try.prog w = .ok (.pointer (some ⟨n, o + 0, none⟩)) w := by
  simp [Instr.fieldAt, go_sem, add_none]
theorem fld_7_1 (n o : Nat) (w : World) : (Instr.fieldAt 7 (.pointer (some ⟨n, o, none⟩)) 1).run Try.prog w = .ok (.pointer (some ⟨n, o + 1, none⟩)) w := by
  simp [Instr.fieldAt, go_sem, add_none]
theorem fld_7_2 (n o : Nat) (w : World) : (Instr.fieldAt 7 (.pointer (some ⟨n, o, none⟩)) 2).run Try.prog w = .ok (.pointer (some ⟨n, o + 2, none⟩)) w := by
  simp [Instr.fieldAt, go_sem, add_none]
theorem fld_7_3 (n o : Nat) (w : World) : (Instr.fieldAt 7 (.pointer (some ⟨n, o, none⟩)) 3).run Try.prog w = .ok (.pointer (some ⟨n, o + 3, none⟩)) w := by
  simp [Instr.fieldAt, go_sem, add_none]
theorem fld_7 : ∀ (k off : Nat), ([some 0, some 1, some 2, some 3] : List (Option Nat))[k]? = some (some off) → ∀ (n o : Nat) (w : World), (Instr.fieldAt 7 (.pointer (some ⟨n, o, none⟩)) k).run Try.prog w = .ok (.pointer (some ⟨n, o + off, none⟩)) w
  | 0, _, h => by simp at h; subst h; exact fld_7_0
  | 1, _, h => by simp at h; subst h; exact fld_7_1
  | 2, _, h => by simp at h; subst h; exact fld_7_2
  | 3, _, h => by simp at h; subst h; exact fld_7_3
  | k + 4, _, h => by simp at h
theorem fld_8_0 (n o : Nat) (w : World) : (Instr.fieldAt 8 (.pointer (some ⟨n, o, none⟩)) 0).run Try.prog w = .ok (.pointer (some ⟨n, o + 0, none⟩)) w := by
  simp [Instr.fieldAt, go_sem, add_none]
theorem fld_8_1 (n o : Nat) (w : World) : (Instr.fieldAt 8 (.pointer (some ⟨n, o, none⟩)) 1).run Try.prog w = .ok (.pointer (some ⟨n, o + 1, none⟩)) w := by
  simp [Instr.fieldAt, go_sem, add_none]
theorem fld_8_2 (n o : Nat) (w : World) : (Instr.fieldAt 8 (.pointer (some ⟨n, o, none⟩)) 2).run Try.prog w = .ok (.pointer (some ⟨n, o + 2, none⟩)) w := by
  simp [Instr.fieldAt, go_sem, add_none]
theorem fld_8_3 (n o : Nat) (w : World) : (Instr.fieldAt 8 (.pointer (some ⟨n, o, none⟩)) 3).run Try.prog w = .ok (.pointer (some ⟨n, o + 3, none⟩)) w := by
  simp [Instr.fieldAt, go_sem, add_none]
theorem fld_8 : ∀ (k off : Nat), ([some 0, some 1, some 2, some 3] : List (Option Nat))[k]? = some (some off) → ∀ (n o : Nat) (w : World), (Instr.fieldAt 8 (.pointer (some ⟨n, o, none⟩)) k).run Try.prog w = .ok (.pointer (some ⟨n, o + off, none⟩)) w
  | 0, _, h => by simp at h; subst h; exact fld_8_0
  | 1, _, h => by simp at h; subst h; exact fld_8_1
  | 2, _, h => by simp at h; subst h; exact fld_8_2
  | 3, _, h => by simp at h; subst h; exact fld_8_3
  | k + 4, _, h => by simp at h
theorem fld_13_0 (n o : Nat) (w : World) : (Instr.fieldAt 13 (.pointer (some ⟨n, o, none⟩)) 0).run Try.prog w = .ok (.pointer (some ⟨n, o + 0, none⟩)) w := by
  simp [Instr.fieldAt, go_sem, add_none]
theorem fld_13_1 (n o : Nat) (w : World) : (Instr.fieldAt 13 (.pointer (some ⟨n, o, none⟩)) 1).run Try.prog w = .ok (.pointer (some ⟨n, o + 1, none⟩)) w := by
  simp [Instr.fieldAt, go_sem, add_none]
theorem fld_13 : ∀ (k off : Nat), ([some 0, some 1] : List (Option Nat))[k]? = some (some off) → ∀ (n o : Nat) (w : World), (Instr.fieldAt 13 (.pointer (some ⟨n, o, none⟩)) k).run Try.prog w = .ok (.pointer (some ⟨n, o + off, none⟩)) w
  | 0, _, h => by simp at h; subst h; exact fld_13_0
  | 1, _, h => by simp at h; subst h; exact fld_13_1
  | k + 2, _, h => by simp at h
theorem fld_14_0 (n o : Nat) (w : World) : (Instr.fieldAt 14 (.pointer (some ⟨n, o, none⟩)) 0).run Try.prog w = .ok (.pointer (some ⟨n, o + 0, none⟩)) w := by
  simp [Instr.fieldAt, go_sem, add_none]
theorem fld_14_1 (n o : Nat) (w : World) : (Instr.fieldAt 14 (.pointer (some ⟨n, o, none⟩)) 1).run Try.prog w = .ok (.pointer (some ⟨n, o + 1, none⟩)) w := by
  simp [Instr.fieldAt, go_sem, add_none]
theorem fld_14 : ∀ (k off : Nat), ([some 0, some 1] : List (Option Nat))[k]? = some (some off) → ∀ (n o : Nat) (w : World), (Instr.fieldAt 14 (.pointer (some ⟨n, o, none⟩)) k).run Try.prog w = .ok (.pointer (some ⟨n, o + off, none⟩)) w
  | 0, _, h => by simp at h; subst h; exact fld_14_0
  | 1, _, h => by simp at h; subst h; exact fld_14_1
  | k + 2, _, h => by simp at h
theorem fld_18_0 (n o : Nat) (w : World) : (Instr.fieldAt 18 (.pointer (some ⟨n, o, none⟩)) 0).run Try.prog w = .ok (.pointer (some ⟨n, o + 0, none⟩)) w := by
  simp [Instr.fieldAt, go_sem, add_none]
theorem fld_18 : ∀ (k off : Nat), ([some 0] : List (Option Nat))[k]? = some (some off) → ∀ (n o : Nat) (w : World), (Instr.fieldAt 18 (.pointer (some ⟨n, o, none⟩)) k).run Try.prog w = .ok (.pointer (some ⟨n, o + off, none⟩)) w
  | 0, _, h => by simp at h; subst h; exact fld_18_0
  | k + 1, _, h => by simp at h
theorem fld_19_0 (n o : Nat) (w : World) : (Instr.fieldAt 19 (.pointer (some ⟨n, o, none⟩)) 0).run Try.prog w = .ok (.pointer (some ⟨n, o + 0, none⟩)) w := by
  simp [Instr.fieldAt, go_sem, add_none]
theorem fld_19 : ∀ (k off : Nat), ([some 0] : List (Option Nat))[k]? = some (some off) → ∀ (n o : Nat) (w : World), (Instr.fieldAt 19 (.pointer (some ⟨n, o, none⟩)) k).run Try.prog w = .ok (.pointer (some ⟨n, o + off, none⟩)) w
  | 0, _, h => by simp at h; subst h; exact fld_19_0
  | k + 1, _, h => by simp at h
theorem fld_24_0 (n o : Nat) (w : World) : (Instr.fieldAt 24 (.pointer (some ⟨n, o, none⟩)) 0).run Try.prog w = .ok (.pointer (some ⟨n, o + 0, none⟩)) w := by
  simp [Instr.fieldAt, go_sem, add_none]
theorem fld_24_1 (n o : Nat) (w : World) : (Instr.fieldAt 24 (.pointer (some ⟨n, o, none⟩)) 1).run Try.prog w = .ok (.pointer (some ⟨n, o + 1, none⟩)) w := by
  simp [Instr.fieldAt, go_sem, add_none]
theorem fld_24_2 (n o : Nat) (w : World) : (Instr.fieldAt 24 (.pointer (some ⟨n, o, none⟩)) 2).run Try.prog w = .ok (.pointer (some ⟨n, o + 2, none⟩)) w := by
  simp [Instr.fieldAt, go_sem, add_none]
theorem fld_24_3 (n o : Nat) (w : World) : (Instr.fieldAt 24 (.pointer (some ⟨n, o, none⟩)) 3).run Try.prog w = .ok (.pointer (some ⟨n, o + 3, none⟩)) w := by
  simp [Instr.fieldAt, go_sem, add_none]
theorem fld_24_4 (n o : Nat) (w : World) : (Instr.fieldAt 24 (.pointer (some ⟨n, o, none⟩)) 4).run Try.prog w = .ok (.pointer (some ⟨n, o + 4, none⟩)) w := by
  simp [Instr.fieldAt, go_sem, add_none]
theorem fld_24_5 (n o : Nat) (w : World) : (Instr.fieldAt 24 (.pointer (some ⟨n, o, none⟩)) 5).run Try.prog w = .ok (.pointer (some ⟨n, o + 5, none⟩)) w := by
  simp [Instr.fieldAt, go_sem, add_none]
theorem fld_24_6 (n o : Nat) (w : World) : (Instr.fieldAt 24 (.pointer (some ⟨n, o, none⟩)) 6).run Try.prog w = .ok (.pointer (some ⟨n, o + 6, none⟩)) w := by
  simp [Instr.fieldAt, go_sem, add_none]
theorem fld_24_7 (n o : Nat) (w : World) : (Instr.fieldAt 24 (.pointer (some ⟨n, o, none⟩)) 7).run Try.prog w = .ok (.pointer (some ⟨n, o + 7, none⟩)) w := by
  simp [Instr.fieldAt, go_sem, add_none]
theorem fld_24_8 (n o : Nat) (w : World) : (Instr.fieldAt 24 (.pointer (some ⟨n, o, none⟩)) 8).run Try.prog w = .ok (.pointer (some ⟨n, o + 8, none⟩)) w := by
  simp [Instr.fieldAt, go_sem, add_none]
theorem fld_24_9 (n o : Nat) (w : World) : (Instr.fieldAt 24 (.pointer (some ⟨n, o, none⟩)) 9).run Try.prog w = .ok (.pointer (some ⟨n, o + 9, none⟩)) w := by
  simp [Instr.fieldAt, go_sem, add_none]
theorem fld_24_10 (n o : Nat) (w : World) : (Instr.fieldAt 24 (.pointer (some ⟨n, o, none⟩)) 10).run Try.prog w = .ok (.pointer (some ⟨n, o + 10, none⟩)) w := by
  simp [Instr.fieldAt, go_sem, add_none]
theorem fld_24 : ∀ (k off : Nat), ([some 0, some 1, some 2, some 3, some 4, some 5, some 6, some 7, some 8, some 9, some 10] : List (Option Nat))[k]? = some (some off) → ∀ (n o : Nat) (w : World), (Instr.fieldAt 24 (.pointer (some ⟨n, o, none⟩)) k).run Try.prog w = .ok (.pointer (some ⟨n, o + off, none⟩)) w
  | 0, _, h => by simp at h; subst h; exact fld_24_0
  | 1, _, h => by simp at h; subst h; exact fld_24_1
  | 2, _, h => by simp at h; subst h; exact fld_24_2
  | 3, _, h => by simp at h; subst h; exact fld_24_3
  | 4, _, h => by simp at h; subst h; exact fld_24_4
  | 5, _, h => by simp at h; subst h; exact fld_24_5
  | 6, _, h => by simp at h; subst h; exact fld_24_6
  | 7, _, h => by simp at h; subst h; exact fld_24_7
  | 8, _, h => by simp at h; subst h; exact fld_24_8
  | 9, _, h => by simp at h; subst h; exact fld_24_9
  | 10, _, h => by simp at h; subst h; exact fld_24_10
  | k + 11, _, h => by simp at h
theorem fld_25_0 (n o : Nat) (w : World) : (Instr.fieldAt 25 (.pointer (some ⟨n, o, none⟩)) 0).run Try.prog w = .ok (.pointer (some ⟨n, o + 0, none⟩)) w := by
  simp [Instr.fieldAt, go_sem, add_none]
theorem fld_25_1 (n o : Nat) (w : World) : (Instr.fieldAt 25 (.pointer (some ⟨n, o, none⟩)) 1).run Try.prog w = .ok (.pointer (some ⟨n, o + 1, none⟩)) w := by
  simp [Instr.fieldAt, go_sem, add_none]
theorem fld_25_2 (n o : Nat) (w : World) : (Instr.fieldAt 25 (.pointer (some ⟨n, o, none⟩)) 2).run Try.prog w = .ok (.pointer (some ⟨n, o + 2, none⟩)) w := by
  simp [Instr.fieldAt, go_sem, add_none]
theorem fld_25_3 (n o : Nat) (w : World) : (Instr.fieldAt 25 (.pointer (some ⟨n, o, none⟩)) 3).run Try.prog w = .ok (.pointer (some ⟨n, o + 3, none⟩)) w := by
  simp [Instr.fieldAt, go_sem, add_none]
theorem fld_25_4 (n o : Nat) (w : World) : (Instr.fieldAt 25 (.pointer (some ⟨n, o, none⟩)) 4).run Try.prog w = .ok (.pointer (some ⟨n, o + 4, none⟩)) w := by
  simp [Instr.fieldAt, go_sem, add_none]
theorem fld_25_5 (n o : Nat) (w : World) : (Instr.fieldAt 25 (.pointer (some ⟨n, o, none⟩)) 5).run Try.prog w = .ok (.pointer (some ⟨n, o + 5, none⟩)) w := by
  simp [Instr.fieldAt, go_sem, add_none]
theorem fld_25_6 (n o : Nat) (w : World) : (Instr.fieldAt 25 (.pointer (some ⟨n, o, none⟩)) 6).run Try.prog w = .ok (.pointer (some ⟨n, o + 6, none⟩)) w := by
  simp [Instr.fieldAt, go_sem, add_none]
theorem fld_25_7 (n o : Nat) (w : World) : (Instr.fieldAt 25 (.pointer (some ⟨n, o, none⟩)) 7).run Try.prog w = .ok (.pointer (some ⟨n, o + 7, none⟩)) w := by
  simp [Instr.fieldAt, go_sem, add_none]
theorem fld_25_8 (n o : Nat) (w : World) : (Instr.fieldAt 25 (.pointer (some ⟨n, o, none⟩)) 8).run Try.prog w = .ok (.pointer (some ⟨n, o + 8, none⟩)) w := by
  simp [Instr.fieldAt, go_sem, add_none]
theorem fld_25_9 (n o : Nat) (w : World) : (Instr.fieldAt 25 (.pointer (some ⟨n, o, none⟩)) 9).run Try.prog w = .ok (.pointer (some ⟨n, o + 9, none⟩)) w := by
  simp [Instr.fieldAt, go_sem, add_none]
theorem fld_25_10 (n o : Nat) (w : World) : (Instr.fieldAt 25 (.pointer (some ⟨n, o, none⟩)) 10).run Try.prog w = .ok (.pointer (some ⟨n, o + 10, none⟩)) w := by
  simp [Instr.fieldAt, go_sem, add_none]
theorem fld_25 : ∀ (k off : Nat), ([some 0, some 1, some 2, some 3, some 4, some 5, some 6, some 7, some 8, some 9, some 10] : List (Option Nat))[k]? = some (some off) → ∀ (n o : Nat) (w : World), (Instr.fieldAt 25 (.pointer (some ⟨n, o, none⟩)) k).run Try.prog w = .ok (.pointer (some ⟨n, o + off, none⟩)) w
  | 0, _, h => by simp at h; subst h; exact fld_25_0
  | 1, _, h => by simp at h; subst h; exact fld_25_1
  | 2, _, h => by simp at h; subst h; exact fld_25_2
  | 3, _, h => by simp at h; subst h; exact fld_25_3
  | 4, _, h => by simp at h; subst h; exact fld_25_4
  | 5, _, h => by simp at h; subst h; exact fld_25_5
  | 6, _, h => by simp at h; subst h; exact fld_25_6
  | 7, _, h => by simp at h; subst h; exact fld_25_7
  | 8, _, h => by simp at h; subst h; exact fld_25_8
  | 9, _, h => by simp at h; subst h; exact fld_25_9
  | 10, _, h => by simp at h; subst h; exact fld_25_10
  | k + 11, _, h => by simp at h
theorem fld_30_0 (n o : Nat) (w : World) : (Instr.fieldAt 30 (.pointer (some ⟨n, o, none⟩)) 0).run Try.prog w = .ok (.pointer (some ⟨n, o + 0, none⟩)) w := by
  simp [Instr.fieldAt, go_sem, add_none]
theorem fld_30_1 (n o : Nat) (w : World) : (Instr.fieldAt 30 (.pointer (some ⟨n, o, none⟩)) 1).run Try.prog w = .ok (.pointer (some ⟨n, o + 1, none⟩)) w := by
  simp [Instr.fieldAt, go_sem, add_none]
theorem fld_30_2 (n o : Nat) (w : World) : (Instr.fieldAt 30 (.pointer (some ⟨n, o, none⟩)) 2).run Try.prog w = .ok (.pointer (some ⟨n, o + 2, none⟩)) w := by
  simp [Instr.fieldAt, go_sem, add_none]
theorem fld_30_3 (n o : Nat) (w : World) : (Instr.fieldAt 30 (.pointer (some ⟨n, o, none⟩)) 3).run Try.prog w = .ok (.pointer (some ⟨n, o + 3, none⟩)) w := by
  simp [Instr.fieldAt, go_sem, add_none]
theorem fld_30_4 (n o : Nat) (w : World) : (Instr.fieldAt 30 (.pointer (some ⟨n, o, none⟩)) 4).run Try.prog w = .ok (.pointer (some ⟨n, o + 4, none⟩)) w := by
  simp [Instr.fieldAt, go_sem, add_none]
theorem fld_30_5 (n o : Nat) (w : World) : (Instr.fieldAt 30 (.pointer (some ⟨n, o, none⟩)) 5).run Try.prog w = .ok (.pointer (some ⟨n, o + 5, none⟩)) w := by
  simp [Instr.fieldAt, go_sem, add_none]
theorem fld_30_6 (n o : Nat) (w : World) : (Instr.fieldAt 30 (.pointer (some ⟨n, o, none⟩)) 6).run Try.prog w = .ok (.pointer (some ⟨n, o + 6, none⟩)) w := by
  simp [Instr.fieldAt, go_sem, add_none]
theorem fld_30_7 (n o : Nat) (w : World) : (Instr.fieldAt 30 (.pointer (some ⟨n, o, none⟩)) 7).run Try.prog w = .ok (.pointer (some ⟨n, o + 7, none⟩)) w := by
  simp [Instr.fieldAt, go_sem, add_none]
theorem fld_30_8 (n o : Nat) (w : World) : (Instr.fieldAt 30 (.pointer (some ⟨n, o, none⟩)) 8).run Try.prog w = .ok (.pointer (some ⟨n, o + 8, none⟩)) w := by
  simp [Instr.fieldAt, go_sem, add_none]
theorem fld_30 : ∀ (k off : Nat), ([some 0, some 1, some 2, some 3, some 4, some 5, some 6, some 7, some 8] : List (Option Nat))[k]? = some (some off) → ∀ (n o : Nat) (w : World), (Instr.fieldAt 30 (.pointer (some ⟨n, o, none⟩)) k).run Try.prog w = .ok (.pointer (some ⟨n, o + off, none⟩)) w
  | 0, _, h => by simp at h; subst h; exact fld_30_0
  | 1, _, h => by simp at h; subst h; exact fld_30_1
  | 2, _, h => by simp at h; subst h; exact fld_30_2
  | 3, _, h => by simp at h; subst h; exact fld_30_3
  | 4, _, h => by simp at h; subst h; exact fld_30_4
  | 5, _, h => by simp at h; subst h; exact fld_30_5
  | 6, _, h => by simp at h; subst h; exact fld_30_6
  | 7, _, h => by simp at h; subst h; exact fld_30_7
  | 8, _, h => by simp at h; subst h; exact fld_30_8
  | k + 9, _, h => by simp at h
theorem fld_31_0 (n o : Nat) (w : World) : (Instr.fieldAt 31 (.pointer (some ⟨n, o, none⟩)) 0).run Try.prog w = .ok (.pointer (some ⟨n, o + 0, none⟩)) w := by
  simp [Instr.fieldAt, go_sem, add_none]
theorem fld_31_1 (n o : Nat) (w : World) : (Instr.fieldAt 31 (.pointer (some ⟨n, o, none⟩)) 1).run Try.prog w = .ok (.pointer (some ⟨n, o + 1, none⟩)) w := by
  simp [Instr.fieldAt, go_sem, add_none]
theorem fld_31_2 (n o : Nat) (w : World) : (Instr.fieldAt 31 (.pointer (some ⟨n, o, none⟩)) 2).run Try.prog w = .ok (.pointer (some ⟨n, o + 2, none⟩)) w := by
  simp [Instr.fieldAt, go_sem, add_none]
theorem fld_31_3 (n o : Nat) (w : World) : (Instr.fieldAt 31 (.pointer (some ⟨n, o, none⟩)) 3).run Try.prog w = .ok (.pointer (some ⟨n, o + 3, none⟩)) w := by
  simp [Instr.fieldAt, go_sem, add_none]
theorem fld_31_4 (n o : Nat) (w : World) : (Instr.fieldAt 31 (.pointer (some ⟨n, o, none⟩)) 4).run Try.prog w = .ok (.pointer (some ⟨n, o + 4, none⟩)) w := by
  simp [Instr.fieldAt, go_sem, add_none]
theorem fld_31_5 (n o : Nat) (w : World) : (Instr.fieldAt 31 (.pointer (some ⟨n, o, none⟩)) 5).run Try.prog w = .ok (.pointer (some ⟨n, o + 5, none⟩)) w := by
  simp [Instr.fieldAt, go_sem, add_none]
theorem fld_31_6 (n o : Nat) (w : World) : (Instr.fieldAt 31 (.pointer (some ⟨n, o, none⟩)) 6).run Try.prog w = .ok (.pointer (some ⟨n, o + 6, none⟩)) w := by
  simp [Instr.fieldAt, go_sem, add_none]
theorem fld_31_7 (n o : Nat) (w : World) : (Instr.fieldAt 31 (.pointer (some ⟨n, o, none⟩)) 7).run Try.prog w = .ok (.pointer (some ⟨n, o + 7, none⟩)) w := by
  simp [Instr.fieldAt, go_sem, add_none]
theorem fld_31_8 (n o : Nat) (w : World) : (Instr.fieldAt 31 (.pointer (some ⟨n, o, none⟩)) 8).run Try.prog w = .ok (.pointer (some ⟨n, o + 8, none⟩)) w := by
  simp [Instr.fieldAt, go_sem, add_none]
theorem fld_31 : ∀ (k off : Nat), ([some 0, some 1, some 2, some 3, some 4, some 5, some 6, some 7, some 8] : List (Option Nat))[k]? = some (some off) → ∀ (n o : Nat) (w : World), (Instr.fieldAt 31 (.pointer (some ⟨n, o, none⟩)) k).run Try.prog w = .ok (.pointer (some ⟨n, o + off, none⟩)) w
  | 0, _, h => by simp at h; subst h; exact fld_31_0
  | 1, _, h => by simp at h; subst h; exact fld_31_1
  | 2, _, h => by simp at h; subst h; exact fld_31_2
  | 3, _, h => by simp at h; subst h; exact fld_31_3
  | 4, _, h => by simp at h; subst h; exact fld_31_4
  | 5, _, h => by simp at h; subst h; exact fld_31_5
  | 6, _, h => by simp at h; subst h; exact fld_31_6
  | 7, _, h => by simp at h; subst h; exact fld_31_7
  | 8, _, h => by simp at h; subst h; exact fld_31_8
  | k + 9, _, h => by simp at h
theorem fld_35_0 (n o : Nat) (w : World) : (Instr.fieldAt 35 (.pointer (some ⟨n, o, none⟩)) 0).run Try.prog w = .ok (.pointer (some ⟨n, o + 0, none⟩)) w := by
  simp [Instr.fieldAt, go_sem, add_none]
theorem fld_35_1 (n o : Nat) (w : World) : (Instr.fieldAt 35 (.pointer (some ⟨n, o, none⟩)) 1).run Try.prog w = .ok (.pointer (some ⟨n, o + 1, none⟩)) w := by
  simp [Instr.fieldAt, go_sem, add_none]
theorem fld_35_2 (n o : Nat) (w : World) : (Instr.fieldAt 35 (.pointer (some ⟨n, o, none⟩)) 2).run Try.prog w = .ok (.pointer (some ⟨n, o + 2, none⟩)) w := by
  simp [Instr.fieldAt, go_sem, add_none]
theorem fld_35_3 (n o : Nat) (w : World) : (Instr.fieldAt 35 (.pointer (some ⟨n, o, none⟩)) 3).run Try.prog w = .ok (.pointer (some ⟨n, o + 3, none⟩)) w := by
  simp [Instr.fieldAt, go_sem, add_none]
theorem fld_35 : ∀ (k off : Nat), ([some 0, some 1, some 2, some 3] : List (Option Nat))[k]? = some (some off) → ∀ (n o : Nat) (w : World), (Instr.fieldAt 35 (.pointer (some ⟨n, o, none⟩)) k).run Try.prog w = .ok (.pointer (some ⟨n, o + off, none⟩)) w
  | 0, _, h => by simp at h; subst h; exact fld_35_0
  | 1, _, h => by simp at h; subst h; exact fld_35_1
  | 2, _, h => by simp at h; subst h; exact fld_35_2
  | 3, _, h => by simp at h; subst h; exact fld_35_3
  | k + 4, _, h => by simp at h
theorem fld_36_0 (n o : Nat) (w : World) : (Instr.fieldAt 36 (.pointer (some ⟨n, o, none⟩)) 0).run Try.prog w = .ok (.pointer (some ⟨n, o + 0, none⟩)) w := by
  simp [Instr.fieldAt, go_sem, add_none]
theorem fld_36_1 (n o : Nat) (w : World) : (Instr.fieldAt 36 (.pointer (some ⟨n, o, none⟩)) 1).run Try.prog w = .ok (.pointer (some ⟨n, o + 1, none⟩)) w := by
  simp [Instr.fieldAt, go_sem, add_none]
theorem fld_36_2 (n o : Nat) (w : World) : (Instr.fieldAt 36 (.pointer (some ⟨n, o, none⟩)) 2).run Try.prog w = .ok (.pointer (some ⟨n, o + 2, none⟩)) w := by
  simp [Instr.fieldAt, go_sem, add_none]
theorem fld_36_3 (n o : Nat) (w : World) : (Instr.fieldAt 36 (.pointer (some ⟨n, o, none⟩)) 3).run Try.prog w = .ok (.pointer (some ⟨n, o + 3, none⟩)) w := by
  simp [Instr.fieldAt, go_sem, add_none]
theorem fld_36 : ∀ (k off : Nat), ([some 0, some 1, some 2, some 3] : List (Option Nat))[k]? = some (some off) → ∀ (n o : Nat) (w : World), (Instr.fieldAt 36 (.pointer (some ⟨n, o, none⟩)) k).run Try.prog w = .ok (.pointer (some ⟨n, o + off, none⟩)) w
  | 0, _, h => by simp at h; subst h; exact fld_36_0
  | 1, _, h => by simp at h; subst h; exact fld_36_1
  | 2, _, h => by simp at h; subst h; exact fld_36_2
  | 3, _, h => by simp at h; subst h; exact fld_36_3
  | k + 4, _, h => by simp at h
theorem fld_39_0 (n o : Nat) (w : World) : (Instr.fieldAt 39 (.pointer (some ⟨n, o, none⟩)) 0).run Try.prog w = .ok (.pointer (some ⟨n, o + 0, none⟩)) w := by
  simp [Instr.fieldAt, go_sem, add_none]
theorem fld_39_1 (n o : Nat) (w : World) : (Instr.fieldAt 39 (.pointer (some ⟨n, o, none⟩)) 1).run Try.prog w = .ok (.pointer (some ⟨n, o + 1, none⟩)) w := by
  simp [Instr.fieldAt, go_sem, add_none]
theorem fld_39_2 (n o : Nat) (w : World) : (Instr.fieldAt 39 (.pointer (some ⟨n, o, none⟩)) 2).run Try.prog w = .ok (.pointer (some ⟨n, o + 2, none⟩)) w := by
  simp [Instr.fieldAt, go_sem, add_none]
theorem fld_39_3 (n o : Nat) (w : World) : (Instr.fieldAt 39 (.pointer (some ⟨n, o, none⟩)) 3).run Try.prog w = .ok (.pointer (some ⟨n, o + 3, none⟩)) w := by
  simp [Instr.fieldAt, go_sem, add_none]
theorem fld_39_4 (n o : Nat) (w : World) : (Instr.fieldAt 39 (.pointer (some ⟨n, o, none⟩)) 4).run Try.prog w = .ok (.pointer (some ⟨n, o + 4, none⟩)) w := by
  simp [Instr.fieldAt, go_sem, add_none]
theorem fld_39 : ∀ (k off : Nat), ([some 0, some 1, some 2, some 3, some 4] : List (Option Nat))[k]? = some (some off) → ∀ (n o : Nat) (w : World), (Instr.fieldAt 39 (.pointer (some ⟨n, o, none⟩)) k).run Try.prog w = .ok (.pointer (some ⟨n, o + off, none⟩)) w
  | 0, _, h => by simp at h; subst h; exact fld_39_0
  | 1, _, h => by simp at h; subst h; exact fld_39_1
  | 2, _, h => by simp at h; subst h; exact fld_39_2
  | 3, _, h => by simp at h; subst h; exact fld_39_3
  | 4, _, h => by simp at h; subst h; exact fld_39_4
  | k + 5, _, h => by simp at h
theorem fld_40_0 (n o : Nat) (w : World) : (Instr.fieldAt 40 (.pointer (some ⟨n, o, none⟩)) 0).run Try.prog w = .ok (.pointer (some ⟨n, o + 0, none⟩)) w := by
  simp [Instr.fieldAt, go_sem, add_none]
theorem fld_40_1 (n o : Nat) (w : World) : (Instr.fieldAt 40 (.pointer (some ⟨n, o, none⟩)) 1).run Try.prog w = .ok (.pointer (some ⟨n, o + 1, none⟩)) w := by
  simp [Instr.fieldAt, go_sem, add_none]
theorem fld_40_2 (n o : Nat) (w : World) : (Instr.fieldAt 40 (.pointer (some ⟨n, o, none⟩)) 2).run Try.prog w = .ok (.pointer (some ⟨n, o + 2, none⟩)) w := by
  simp [Instr.fieldAt, go_sem, add_none]
theorem fld_40_3 (n o : Nat) (w : World) : (Instr.fieldAt 40 (.pointer (some ⟨n, o, none⟩)) 3).run Try.prog w = .ok (.pointer (some ⟨n, o + 3, none⟩)) w := by
  simp [Instr.fieldAt, go_sem, add_none]
theorem fld_40_4 (n o : Nat) (w : World) : (Instr.fieldAt 40 (.pointer (some ⟨n, o, none⟩)) 4).run Try.prog w = .ok (.pointer (some ⟨n, o + 4, none⟩)) w := by
  simp [Instr.fieldAt, go_sem, add_none]
theorem fld_40 : ∀ (k off : Nat), ([some 0, some 1, some 2, some 3, some 4] : List (Option Nat))[k]? = some (some off) → ∀ (n o : Nat) (w : World), (Instr.fieldAt 40 (.pointer (some ⟨n, o, none⟩)) k).run Try.prog w = .ok (.pointer (some ⟨n, o + off, none⟩)) w
  | 0, _, h => by simp at h; subst h; exact fld_40_0
  | 1, _, h => by simp at h; subst h; exact fld_40_1
  | 2, _, h => by simp at h; subst h; exact fld_40_2
  | 3, _, h => by simp at h; subst h; exact fld_40_3
  | 4, _, h => by simp at h; subst h; exact fld_40_4
  | k + 5, _, h => by simp at h
theorem fld_50_0 (n o : Nat) (w : World) : (Instr.fieldAt 50 (.pointer (some ⟨n, o, none⟩)) 0).run Try.prog w = .ok (.pointer (some ⟨n, o + 0, none⟩)) w := by
  simp [Instr.fieldAt, go_sem, add_none]
theorem fld_50_1 (n o : Nat) (w : World) : (Instr.fieldAt 50 (.pointer (some ⟨n, o, none⟩)) 1).run Try.prog w = .ok (.pointer (some ⟨n, o + 1, none⟩)) w := by
  simp [Instr.fieldAt, go_sem, add_none]
theorem fld_50_2 (n o : Nat) (w : World) : (Instr.fieldAt 50 (.pointer (some ⟨n, o, none⟩)) 2).run Try.prog w = .ok (.pointer (some ⟨n, o + 2, none⟩)) w := by
  simp [Instr.fieldAt, go_sem, add_none]
theorem fld_50_3 (n o : Nat) (w : World) : (Instr.fieldAt 50 (.pointer (some ⟨n, o, none⟩)) 3).run Try.prog w = .ok (.pointer (some ⟨n, o + 3, none⟩)) w := by
  simp [Instr.fieldAt, go_sem, add_none]
theorem fld_50_4 (n o : Nat) (w : World) : (Instr.fieldAt 50 (.pointer (some ⟨n, o, none⟩)) 4).run Try.prog w = .ok (.pointer (some ⟨n, o + 4, none⟩)) w := by
  simp [Instr.fieldAt, go_sem, add_none]
theorem fld_50_5 (n o : Nat) (w : World) : (Instr.fieldAt 50 (.pointer (some ⟨n, o, none⟩)) 5).run Try.prog w = .ok (.pointer (some ⟨n, o + 5, none⟩)) w := by
  simp [Instr.fieldAt, go_sem, add_none]
theorem fld_50 : ∀ (k off : Nat), ([some 0, some 1, some 2, some 3, some 4, some 5] : List (Option Nat))[k]? = some (some off) → ∀ (n o : Nat) (w : World), (Instr.fieldAt 50 (.pointer (some ⟨n, o, none⟩)) k).run Try.prog w = .ok (.pointer (some ⟨n, o + off, none⟩)) w
  | 0, _, h => by simp at h; subst h; exact fld_50_0
  | 1, _, h => by simp at h; subst h; exact fld_50_1
  | 2, _, h => by simp at h; subst h; exact fld_50_2
  | 3, _, h => by simp at h; subst h; exact fld_50_3
  | 4, _, h => by simp at h; subst h; exact fld_50_4
  | 5, _, h => by simp at h; subst h; exact fld_50_5
  | k + 6, _, h => by simp at h
theorem fld_51_0 (n o : Nat) (w : World) : (Instr.fieldAt 51 (.pointer (some ⟨n, o, none⟩)) 0).run Try.prog w = .ok (.pointer (some ⟨n, o + 0, none⟩)) w := by
  simp [Instr.fieldAt, go_sem, add_none]
theorem fld_51_1 (n o : Nat) (w : World) : (Instr.fieldAt 51 (.pointer (some ⟨n, o, none⟩)) 1).run Try.prog w = .ok (.pointer (some ⟨n, o + 1, none⟩)) w := by
  simp [Instr.fieldAt, go_sem, add_none]
theorem fld_51_2 (n o : Nat) (w : World) : (Instr.fieldAt 51 (.pointer (some ⟨n, o, none⟩)) 2).run Try.prog w = .ok (.pointer (some ⟨n, o + 2, none⟩)) w := by
  simp [Instr.fieldAt, go_sem, add_none]
theorem fld_51_3 (n o : Nat) (w : World) : (Instr.fieldAt 51 (.pointer (some ⟨n, o, none⟩)) 3).run Try.prog w = .ok (.pointer (some ⟨n, o + 3, none⟩)) w := by
  simp [Instr.fieldAt, go_sem, add_none]
theorem fld_51_4 (n o : Nat) (w : World) : (Instr.fieldAt 51 (.pointer (some ⟨n, o, none⟩)) 4).run Try.prog w = .ok (.pointer (some ⟨n, o + 4, none⟩)) w := by
  simp [Instr.fieldAt, go_sem, add_none]
theorem fld_51_5 (n o : Nat) (w : World) : (Instr.fieldAt 51 (.pointer (some ⟨n, o, none⟩)) 5).run Try.prog w = .ok (.pointer (some ⟨n, o + 5, none⟩)) w := by
  simp [Instr.fieldAt, go_sem, add_none]
theorem fld_51 : ∀ (k off : Nat), ([some 0, some 1, some 2, some 3, some 4, some 5] : List (Option Nat))[k]? = some (some off) → ∀ (n o : Nat) (w : World), (Instr.fieldAt 51 (.pointer (some ⟨n, o, none⟩)) k).run Try.prog w = .ok (.pointer (some ⟨n, o + off, none⟩)) w
  | 0, _, h => by simp at h; subst h; exact fld_51_0
  | 1, _, h => by simp at h; subst h; exact fld_51_1
  | 2, _, h => by simp at h; subst h; exact fld_51_2
  | 3, _, h => by simp at h; subst h; exact fld_51_3
  | 4, _, h => by simp at h; subst h; exact fld_51_4
  | 5, _, h => by simp at h; subst h; exact fld_51_5
  | k + 6, _, h => by simp at h
theorem fld_54_0 (n o : Nat) (w : World) : (Instr.fieldAt 54 (.pointer (some ⟨n, o, none⟩)) 0).run Try.prog w = .ok (.pointer (some ⟨n, o + 0, none⟩)) w := by
  simp [Instr.fieldAt, go_sem, add_none]
theorem fld_54_1 (n o : Nat) (w : World) : (Instr.fieldAt 54 (.pointer (some ⟨n, o, none⟩)) 1).run Try.prog w = .ok (.pointer (some ⟨n, o + 1, none⟩)) w := by
  simp [Instr.fieldAt, go_sem, add_none]
theorem fld_54 : ∀ (k off : Nat), ([some 0, some 1] : List (Option Nat))[k]? = some (some off) → ∀ (n o : Nat) (w : World), (Instr.fieldAt 54 (.pointer (some ⟨n, o, none⟩)) k).run Try.prog w = .ok (.pointer (some ⟨n, o + off, none⟩)) w
  | 0, _, h => by simp at h; subst h; exact fld_54_0
  | 1, _, h => by simp at h; subst h; exact fld_54_1
  | k + 2, _, h => by simp at h
theorem fld_55_0 (n o : Nat) (w : World) : (Instr.fieldAt 55 (.pointer (some ⟨n, o, none⟩)) 0).run Try.prog w = .ok (.pointer (some ⟨n, o + 0, none⟩)) w := by
  simp [Instr.fieldAt, go_sem, add_none]
theorem fld_55_1 (n o : Nat) (w : World) : (Instr.fieldAt 55 (.pointer (some ⟨n, o, none⟩)) 1).run Try.prog w = .ok (.pointer (some ⟨n, o + 1, none⟩)) w := by
  simp [Instr.fieldAt, go_sem, add_none]
theorem fld_55 : ∀ (k off : Nat), ([some 0, some 1] : List (Option Nat))[k]? = some (some off) → ∀ (n o : Nat) (w : World), (Instr.fieldAt 55 (.pointer (some ⟨n, o, none⟩)) k).run Try.prog w = .ok (.pointer (some ⟨n, o + off, none⟩)) w
  | 0, _, h => by simp at h; subst h; exact fld_55_0
  | 1, _, h => by simp at h; subst h; exact fld_55_1
  | k + 2, _, h => by simp at h
theorem fld_56_0 (n o : Nat) (w : World) : (Instr.fieldAt 56 (.pointer (some ⟨n, o, none⟩)) 0).run Try.prog w = .ok (.pointer (some ⟨n, o + 0, none⟩)) w := by
  simp [Instr.fieldAt, go_sem, add_none]
theorem fld_56_1 (n o : Nat) (w : World) : (Instr.fieldAt 56 (.pointer (some ⟨n, o, none⟩)) 1).run Try.prog w = .ok (.pointer (some ⟨n, o + 2, none⟩)) w := by
  simp [Instr.fieldAt, go_sem, add_none]
theorem fld_56 : ∀ (k off : Nat), ([some 0, some 2] : List (Option Nat))[k]? = some (some off) → ∀ (n o : Nat) (w : World), (Instr.fieldAt 56 (.pointer (some ⟨n, o, none⟩)) k).run Try.prog w = .ok (.pointer (some ⟨n, o + off, none⟩)) w
  | 0, _, h => by simp at h; subst h; exact fld_56_0
  | 1, _, h => by simp at h; subst h; exact fld_56_1
  | k + 2, _, h => by simp at h
theorem fld_57_0 (n o : Nat) (w : World) : (Instr.fieldAt 57 (.pointer (some ⟨n, o, none⟩)) 0).run Try.prog w = .ok (.pointer (some ⟨n, o + 0, none⟩)) w := by
  simp [Instr.fieldAt, go_sem, add_none]
theorem fld_57_1 (n o : Nat) (w : World) : (Instr.fieldAt 57 (.pointer (some ⟨n, o, none⟩)) 1).run Try.prog w = .ok (.pointer (some ⟨n, o + 2, none⟩)) w := by
  simp [Instr.fieldAt, go_sem, add_none]
theorem fld_57 : ∀ (k off : Nat), ([some 0, some 2] : List (Option Nat))[k]? = some (some off) → ∀ (n o : Nat) (w : World), (Instr.fieldAt 57 (.pointer (some ⟨n, o, none⟩)) k).run Try.prog w = .ok (.pointer (some ⟨n, o + off, none⟩)) w
  | 0, _, h => by simp at h; subst h; exact fld_57_0
  | 1, _, h => by simp at h; subst h; exact fld_57_1
  | k + 2, _, h => by simp at h
theorem fld_75_0 (n o : Nat) (w : World) : (Instr.fieldAt 75 (.pointer (some ⟨n, o, none⟩)) 0).run Try.prog w = .ok (.pointer (some ⟨n, o + 0, none⟩)) w := by
  simp [Instr.fieldAt, go_sem, add_none]
theorem fld_75_1 (n o : Nat) (w : World) : (Instr.fieldAt 75 (.pointer (some ⟨n, o, none⟩)) 1).run Try.prog w = .ok (.pointer (some ⟨n, o + 1, none⟩)) w := by
  simp [Instr.fieldAt, go_sem, add_none]
theorem fld_75 : ∀ (k off : Nat), ([some 0, some 1] : List (Option Nat))[k]? = some (some off) → ∀ (n o : Nat) (w : World), (Instr.fieldAt 75 (.pointer (some ⟨n, o, none⟩)) k).run Try.prog w = .ok (.pointer (some ⟨n, o + off, none⟩)) w
  | 0, _, h => by simp at h; subst h; exact fld_75_0
  | 1, _, h => by simp at h; subst h; exact fld_75_1
  | k + 2, _, h => by simp at h
theorem fld_76_0 (n o : Nat) (w : World) : (Instr.fieldAt 76 (.pointer (some ⟨n, o, none⟩)) 0).run Try.prog w = .ok (.pointer (some ⟨n, o + 0, none⟩)) w := by
  simp [Instr.fieldAt, go_sem, add_none]
theorem fld_76_1 (n o : Nat) (w : World) : (Instr.fieldAt 76 (.pointer (some ⟨n, o, none⟩)) 1).run Try.prog w = .ok (.pointer (some ⟨n, o + 1, none⟩)) w := by
  simp [Instr.fieldAt, go_sem, add_none]
theorem fld_76 : ∀ (k off : Nat), ([some 0, some 1] : List (Option Nat))[k]? = some (some off) → ∀ (n o : Nat) (w : World), (Instr.fieldAt 76 (.pointer (some ⟨n, o, none⟩)) k).run Try.prog w = .ok (.pointer (some ⟨n, o + off, none⟩)) w
  | 0, _, h => by simp at h; subst h; exact fld_76_0
  | 1, _, h => by simp at h; subst h; exact fld_76_1
  | k + 2, _, h => by simp at h
theorem fld_79_0 (n o : Nat) (w : World) : (Instr.fieldAt 79 (.pointer (some ⟨n, o, none⟩)) 0).run Try.prog w = .ok (.pointer (some ⟨n, o + 0, none⟩)) w := by
  simp [Instr.fieldAt, go_sem, add_none]
theorem fld_79 : ∀ (k off : Nat), ([some 0] : List (Option Nat))[k]? = some (some off) → ∀ (n o : Nat) (w : World), (Instr.fieldAt 79 (.pointer (some ⟨n, o, none⟩)) k).run Try.prog w = .ok (.pointer (some ⟨n, o + off, none⟩)) w
  | 0, _, h => by simp at h; subst h; exact fld_79_0
  | k + 1, _, h => by simp at h
theorem fld_80_0 (n o : Nat) (w : World) : (Instr.fieldAt 80 (.pointer (some ⟨n, o, none⟩)) 0).run Try.prog w = .ok (.pointer (some ⟨n, o + 0, none⟩)) w := by
  simp [Instr.fieldAt, go_sem, add_none]
theorem fld_80 : ∀ (k off : Nat), ([some 0] : List (Option Nat))[k]? = some (some off) → ∀ (n o : Nat) (w : World), (Instr.fieldAt 80 (.pointer (some ⟨n, o, none⟩)) k).run Try.prog w = .ok (.pointer (some ⟨n, o + off, none⟩)) w
  | 0, _, h => by simp at h; subst h; exact fld_80_0
  | k + 1, _, h => by simp at h
theorem fld_83_0 (n o : Nat) (w : World) : (Instr.fieldAt 83 (.pointer (some ⟨n, o, none⟩)) 0).run Try.prog w = .ok (.pointer (some ⟨n, o + 0, none⟩)) w := by
  simp [Instr.fieldAt, go_sem, add_none]
theorem fld_83_1 (n o : Nat) (w : World) : (Instr.fieldAt 83 (.pointer (some ⟨n, o, none⟩)) 1).run Try.prog w = .ok (.pointer (some ⟨n, o + 1, none⟩)) w := by
  simp [Instr.fieldAt, go_sem, add_none]
theorem fld_83 : ∀ (k off : Nat), ([some 0, some 1] : List (Option Nat))[k]? = some (some off) → ∀ (n o : Nat) (w : World), (Instr.fieldAt 83 (.pointer (some ⟨n, o, none⟩)) k).run Try.prog w = .ok (.pointer (some ⟨n, o + off, none⟩)) w
  | 0, _, h => by simp at h; subst h; exact fld_83_0
  | 1, _, h => by simp at h; subst h; exact fld_83_1
  | k + 2, _, h => by simp at h
theorem fld_84_0 (n o : Nat) (w : World) : (Instr.fieldAt 84 (.pointer (some ⟨n, o, none⟩)) 0).run Try.prog w = .ok (.pointer (some ⟨n, o + 0, none⟩)) w := by
  simp [Instr.fieldAt, go_sem, add_none]
theorem fld_84_1 (n o : Nat) (w : World) : (Instr.fieldAt 84 (.pointer (some ⟨n, o, none⟩)) 1).run Try.prog w = .ok (.pointer (some ⟨n, o + 1, none⟩)) w := by
  simp [Instr.fieldAt, go_sem, add_none]
theorem fld_84 : ∀ (k off : Nat), ([some 0, some 1] : List (Option Nat))[k]? = some (some off) → ∀ (n o : Nat) (w : World), (Instr.fieldAt 84 (.pointer (some ⟨n, o, none⟩)) k).run Try.prog w = .ok (.pointer (some ⟨n, o + off, none⟩)) w
  | 0, _, h => by simp at h; subst h; exact fld_84_0
  | 1, _, h => by simp at h; subst h; exact fld_84_1
  | k + 2, _, h => by simp at h
theorem fld_85_0 (n o : Nat) (w : World) : (Instr.fieldAt 85 (.pointer (some ⟨n, o, none⟩)) 0).run Try.prog w = .ok (.pointer (some ⟨n, o + 0, none⟩)) w := by
  simp [Instr.fieldAt, go_sem, add_none]
theorem fld_85_1 (n o : Nat) (w : World) : (Instr.fieldAt 85 (.pointer (some ⟨n, o, none⟩)) 1).run Try.prog w = .ok (.pointer (some ⟨n, o + 1, none⟩)) w := by
  simp [Instr.fieldAt, go_sem, add_none]
theorem fld_85 : ∀ (k off : Nat), ([some 0, some 1] : List (Option Nat))[k]? = some (some off) → ∀ (n o : Nat) (w : World), (Instr.fieldAt 85 (.pointer (some ⟨n, o, none⟩)) k).run Try.prog w = .ok (.pointer (some ⟨n, o + off, none⟩)) w
  | 0, _, h => by simp at h; subst h; exact fld_85_0
  | 1, _, h => by simp at h; subst h; exact fld_85_1
  | k + 2, _, h => by simp at h
theorem fld_86_0 (n o : Nat) (w : World) : (Instr.fieldAt 86 (.pointer (some ⟨n, o, none⟩)) 0).run Try.prog w = .ok (.pointer (some ⟨n, o + 0, none⟩)) w := by
  simp [Instr.fieldAt, go_sem, add_none]
theorem fld_86_1 (n o : Nat) (w : World) : (Instr.fieldAt 86 (.pointer (some ⟨n, o, none⟩)) 1).run Try.prog w = .ok (.pointer (some ⟨n, o + 1, none⟩)) w := by
  simp [Instr.fieldAt, go_sem, add_none]
theorem fld_86 : ∀ (k off : Nat), ([some 0, some 1] : List (Option Nat))[k]? = some (some off) → ∀ (n o : Nat) (w : World), (Instr.fieldAt 86 (.pointer (some ⟨n, o, none⟩)) k).run Try.prog w = .ok (.pointer (some ⟨n, o + off, none⟩)) w
  | 0, _, h => by simp at h; subst h; exact fld_86_0
  | 1, _, h => by simp at h; subst h; exact fld_86_1
  | k + 2, _, h => by simp at h
theorem fld_109_0 (n o : Nat) (w : World) : (Instr.fieldAt 109 (.pointer (some ⟨n, o, none⟩)) 0).run Try.prog w = .ok (.pointer (some ⟨n, o + 0, none⟩)) w := by
  simp [Instr.fieldAt, go_sem, add_none]
theorem fld_109_1 (n o : Nat) (w : World) : (Instr.fieldAt 109 (.pointer (some ⟨n, o, none⟩)) 1).run Try.prog w = .ok (.pointer (some ⟨n, o + 1, none⟩)) w := by
  simp [Instr.fieldAt, go_sem, add_none]
theorem fld_109 : ∀ (k off : Nat), ([some 0, some 1] : List (Option Nat))[k]? = some (some off) → ∀ (n o : Nat) (w : World), (Instr.fieldAt 109 (.pointer (some ⟨n, o, none⟩)) k).run Try.prog w = .ok (.pointer (some ⟨n, o + off, none⟩)) w
  | 0, _, h => by simp at h; subst h; exact fld_109_0
  | 1, _, h => by simp at h; subst h; exact fld_109_1
  | k + 2, _, h => by simp at h
theorem fld_110_0 (n o : Nat) (w : World) : (Instr.fieldAt 110 (.pointer (some ⟨n, o, none⟩)) 0).run Try.prog w = .ok (.pointer (some ⟨n, o + 0, none⟩)) w := by
  simp [Instr.fieldAt, go_sem, add_none]
theorem fld_110_1 (n o : Nat) (w : World) : (Instr.fieldAt 110 (.pointer (some ⟨n, o, none⟩)) 1).run Try.prog w = .ok (.pointer (some ⟨n, o + 1, none⟩)) w := by
  simp [Instr.fieldAt, go_sem, add_none]
theorem fld_110 : ∀ (k off : Nat), ([some 0, some 1] : List (Option Nat))[k]? = some (some off) → ∀ (n o : Nat) (w : World), (Instr.fieldAt 110 (.pointer (some ⟨n, o, none⟩)) k).run Try.prog w = .ok (.pointer (some ⟨n, o + off, none⟩)) w
  | 0, _, h => by simp at h; subst h; exact fld_110_0
  | 1, _, h => by simp at h; subst h; exact fld_110_1
  | k + 2, _, h => by simp at h
theorem fld_127_0 (n o : Nat) (w : World) : (Instr.fieldAt 127 (.pointer (some ⟨n, o, none⟩)) 0).run Try.prog w = .ok (.pointer (some ⟨n, o + 0, none⟩)) w := by
  simp [Instr.fieldAt, go_sem, add_none]
theorem fld_127_1 (n o : Nat) (w : World) : (Instr.fieldAt 127 (.pointer (some ⟨n, o, none⟩)) 1).run Try.prog w = .ok (.pointer (some ⟨n, o + 1, none⟩)) w := by
  simp [Instr.fieldAt, go_sem, add_none]
theorem fld_127_2 (n o : Nat) (w : World) : (Instr.fieldAt 127 (.pointer (some ⟨n, o, none⟩)) 2).run Try.prog w = .ok (.pointer (some ⟨n, o + 2, none⟩)) w := by
  simp [Instr.fieldAt, go_sem, add_none]
theorem fld_127_3 (n o : Nat) (w : World) : (Instr.fieldAt 127 (.pointer (some ⟨n, o, none⟩)) 3).run Try.prog w = .ok (.pointer (some ⟨n, o + 3, none⟩)) w := by
  simp [Instr.fieldAt, go_sem, add_none]
theorem fld_127_4 (n o : Nat) (w : World) : (Instr.fieldAt 127 (.pointer (some ⟨n, o, none⟩)) 4).run Try.prog w = .ok (.pointer (some ⟨n, o + 4, none⟩)) w := by
  simp [Instr.fieldAt, go_sem, add_none]
theorem fld_127 : ∀ (k off : Nat), ([some 0, some 1, some 2, some 3, some 4] : List (Option Nat))[k]? = some (some off) → ∀ (n o : Nat) (w : World), (Instr.fieldAt 127 (.pointer (some ⟨n, o, none⟩)) k).run Try.prog w = .ok (.pointer (some ⟨n, o + off, none⟩)) w
  | 0, _, h => by simp at h; subst h; exact fld_127_0
  | 1, _, h => by simp at h; subst h; exact fld_127_1
  | 2, _, h => by simp at h; subst h; exact fld_127_2
  | 3, _, h => by simp at h; subst h; exact fld_127_3
  | 4, _, h => by simp at h; subst h; exact fld_127_4
  | k + 5, _, h => by simp at h
theorem fld_128_0 (n o : Nat) (w : World) : (Instr.fieldAt 128 (.pointer (some ⟨n, o, none⟩)) 0).run Try.prog w = .ok (.pointer (some ⟨n, o + 0, none⟩)) w := by
  simp [Instr.fieldAt, go_sem, add_none]
theorem fld_128_1 (n o : Nat) (w : World) : (Instr.fieldAt 128 (.pointer (some ⟨n, o, none⟩)) 1).run Try.prog w = .ok (.pointer (some ⟨n, o + 1, none⟩)) w := by
  simp [Instr.fieldAt, go_sem, add_none]
theorem fld_128_2 (n o : Nat) (w : World) : (Instr.fieldAt 128 (.pointer (some ⟨n, o, none⟩)) 2).run Try.prog w = .ok (.pointer (some ⟨n, o + 2, none⟩)) w := by
  simp [Instr.fieldAt, go_sem, add_none]
theorem fld_128_3 (n o : Nat) (w : World) : (Instr.fieldAt 128 (.pointer (some ⟨n, o, none⟩)) 3).run Try.prog w = .ok (.pointer (some ⟨n, o + 3, none⟩)) w := by
  simp [Instr.fieldAt, go_sem, add_none]
theorem fld_128_4 (n o : Nat) (w : World) : (Instr.fieldAt 128 (.pointer (some ⟨n, o, none⟩)) 4).run Try.prog w = .ok (.pointer (some ⟨n, o + 4, none⟩)) w := by
  simp [Instr.fieldAt, go_sem, add_none]
theorem fld_128 : ∀ (k off : Nat), ([some 0, some 1, some 2, some 3, some 4] : List (Option Nat))[k]? = some (some off) → ∀ (n o : Nat) (w : World), (Instr.fieldAt 128 (.pointer (some ⟨n, o, none⟩)) k).run Try.prog w = .ok (.pointer (some ⟨n, o + off, none⟩)) w
  | 0, _, h => by simp at h; subst h; exact fld_128_0
  | 1, _, h => by simp at h; subst h; exact fld_128_1
  | 2, _, h => by simp at h; subst h; exact fld_128_2
  | 3, _, h => by simp at h; subst h; exact fld_128_3
  | 4, _, h => by simp at h; subst h; exact fld_128_4
  | k + 5, _, h => by simp at h
theorem fld_131_0 (n o : Nat) (w : World) : (Instr.fieldAt 131 (.pointer (some ⟨n, o, none⟩)) 0).run Try.prog w = .ok (.pointer (some ⟨n, o + 0, none⟩)) w := by
  simp [Instr.fieldAt, go_sem, add_none]
theorem fld_131_1 (n o : Nat) (w : World) : (Instr.fieldAt 131 (.pointer (some ⟨n, o, none⟩)) 1).run Try.prog w = .ok (.pointer (some ⟨n, o + 1, none⟩)) w := by
  simp [Instr.fieldAt, go_sem, add_none]
theorem fld_131 : ∀ (k off : Nat), ([some 0, some 1] : List (Option Nat))[k]? = some (some off) → ∀ (n o : Nat) (w : World), (Instr.fieldAt 131 (.pointer (some ⟨n, o, none⟩)) k).run Try.prog w = .ok (.pointer (some ⟨n, o + off, none⟩)) w
  | 0, _, h => by simp at h; subst h; exact fld_131_0
  | 1, _, h => by simp at h; subst h; exact fld_131_1
  | k + 2, _, h => by simp at h
theorem fld_132_0 (n o : Nat) (w : World) : (Instr.fieldAt 132 (.pointer (some ⟨n, o, none⟩)) 0).run Try.prog w = .ok (.pointer (some ⟨n, o + 0, none⟩)) w := by
  simp [Instr.fieldAt, go_sem, add_none]
theorem fld_132_1 (n o : Nat) (w : World) : (Instr.fieldAt 132 (.pointer (some ⟨n, o, none⟩)) 1).run Try.prog w = .ok (.pointer (some ⟨n, o + 1, none⟩)) w := by
  simp [Instr.fieldAt, go_sem, add_none]
theorem fld_132 : ∀ (k off : Nat), ([some 0, some 1] : List (Option Nat))[k]? = some (some off) → ∀ (n o : Nat) (w : World), (Instr.fieldAt 132 (.pointer (some ⟨n, o, none⟩)) k).run Try.prog w = .ok (.pointer (some ⟨n, o + off, none⟩)) w
  | 0, _, h => by simp at h; subst h; exact fld_132_0
  | 1, _, h => by simp at h; subst h; exact fld_132_1
  | k + 2, _, h => by simp at h
theorem fld_151_0 (n o : Nat) (w : World) : (Instr.fieldAt 151 (.pointer (some ⟨n, o, none⟩)) 0).run Try.prog w = .ok (.pointer (some ⟨n, o + 0, none⟩)) w := by
  simp [Instr.fieldAt, go_sem, add_none]
theorem fld_151_1 (n o : Nat) (w : World) : (Instr.fieldAt 151 (.pointer (some ⟨n, o, none⟩)) 1).run Try.prog w = .ok (.pointer (some ⟨n, o + 1, none⟩)) w := by
  simp [Instr.fieldAt, go_sem, add_none]
theorem fld_151_2 (n o : Nat) (w : World) : (Instr.fieldAt 151 (.pointer (some ⟨n, o, none⟩)) 2).run Try.prog w = .ok (.pointer (some ⟨n, o + 2, none⟩)) w := by
  simp [Instr.fieldAt, go_sem, add_none]
theorem fld_151_3 (n o : Nat) (w : World) : (Instr.fieldAt 151 (.pointer (some ⟨n, o, none⟩)) 3).run Try.prog w = .ok (.pointer (some ⟨n, o + 3, none⟩)) w := by
  simp [Instr.fieldAt, go_sem, add_none]
theorem fld_151 : ∀ (k off : Nat), ([some 0, some 1, some 2, some 3] : List (Option Nat))[k]? = some (some off) → ∀ (n o : Nat) (w : World), (Instr.fieldAt 151 (.pointer (some ⟨n, o, none⟩)) k).run Try.prog w = .ok (.pointer (some ⟨n, o + off, none⟩)) w
  | 0, _, h => by simp at h; subst h; exact fld_151_0
  | 1, _, h => by simp at h; subst h; exact fld_151_1
  | 2, _, h => by simp at h; subst h; exact fld_151_2
  | 3, _, h => by simp at h; subst h; exact fld_151_3
  | k + 4, _, h => by simp at h
theorem fld_152_0 (n o : Nat) (w : World) : (Instr.fieldAt 152 (.pointer (some ⟨n, o, none⟩)) 0).run Try.prog w = .ok (.pointer (some ⟨n, o + 0, none⟩)) w := by
  simp [Instr.fieldAt, go_sem, add_none]
theorem fld_152_1 (n o : Nat) (w : World) : (Instr.fieldAt 152 (.pointer (some ⟨n, o, none⟩)) 1).run Try.prog w = .ok (.pointer (some ⟨n, o + 1, none⟩)) w := by
  simp [Instr.fieldAt, go_sem, add_none]
theorem fld_152_2 (n o : Nat) (w : World) : (Instr.fieldAt 152 (.pointer (some ⟨n, o, none⟩)) 2).run Try.prog w = .ok (.pointer (some ⟨n, o + 2, none⟩)) w := by
  simp [Instr.fieldAt, go_sem, add_none]
theorem fld_152_3 (n o : Nat) (w : World) : (Instr.fieldAt 152 (.pointer (some ⟨n, o, none⟩)) 3).run Try.prog w = .ok (.pointer (some ⟨n, o + 3, none⟩)) w := by
  simp [Instr.fieldAt, go_sem, add_none]
theorem fld_152 : ∀ (k off : Nat), ([some 0, some 1, some 2, some 3] : List (Option Nat))[k]? = some (some off) → ∀ (n o : Nat) (w : World), (Instr.fieldAt 152 (.pointer (some ⟨n, o, none⟩)) k).run Try.prog w = .ok (.pointer (some ⟨n, o + off, none⟩)) w
  | 0, _, h => by simp at h; subst h; exact fld_152_0
  | 1, _, h => by simp at h; subst h; exact fld_152_1
  | 2, _, h => by simp at h; subst h; exact fld_152_2
  | 3, _, h => by simp at h; subst h; exact fld_152_3
  | k + 4, _, h => by simp at h
theorem fld_154 : ∀ (k off : Nat), ([none] : List (Option Nat))[k]? = some (some off) → ∀ (n o : Nat) (w : World), (Instr.fieldAt 154 (.pointer (some ⟨n, o, none⟩)) k).run Try.prog w = .ok (.pointer (some ⟨n, o + off, none⟩)) w
  | 0, _, h => by simp at h
  | k + 1, _, h => by simp at h
theorem fld_155 : ∀ (k off : Nat), ([none] : List (Option Nat))[k]? = some (some off) → ∀ (n o : Nat) (w : World), (Instr.fieldAt 155 (.pointer (some ⟨n, o, none⟩)) k).run Try.prog w = .ok (.pointer (some ⟨n, o + off, none⟩)) w
  | 0, _, h => by simp at h
  | k + 1, _, h => by simp at h
theorem fld_161_0 (n o : Nat) (w : World) : (Instr.fieldAt 161 (.pointer (some ⟨n, o, none⟩)) 0).run Try.prog w = .ok (.pointer (some ⟨n, o + 0, none⟩)) w := by
  simp [Instr.fieldAt, go_sem, add_none]
theorem fld_161_1 (n o : Nat) (w : World) : (Instr.fieldAt 161 (.pointer (some ⟨n, o, none⟩)) 1).run Try.prog w = .ok (.pointer (some ⟨n, o + 1, none⟩)) w := by
  simp [Instr.fieldAt, go_sem, add_none]
theorem fld_161_2 (n o : Nat) (w : World) : (Instr.fieldAt 161 (.pointer (some ⟨n, o, none⟩)) 2).run Try.prog w = .ok (.pointer (some ⟨n, o + 2, none⟩)) w := by
  simp [Instr.fieldAt, go_sem, add_none]
theorem fld_161_3 (n o : Nat) (w : World) : (Instr.fieldAt 161 (.pointer (some ⟨n, o, none⟩)) 3).run Try.prog w = .ok (.pointer (some ⟨n, o + 3, none⟩)) w := by
  simp [Instr.fieldAt, go_sem, add_none]
theorem fld_161_4 (n o : Nat) (w : World) : (Instr.fieldAt 161 (.pointer (some ⟨n, o, none⟩)) 4).run Try.prog w = .ok (.pointer (some ⟨n, o + 4, none⟩)) w := by
  simp [Instr.fieldAt, go_sem, add_none]
theorem fld_161_5 (n o : Nat) (w : World) : (Instr.fieldAt 161 (.pointer (some ⟨n, o, none⟩)) 5).run Try.prog w = .ok (.pointer (some ⟨n, o + 5, none⟩)) w := by
  simp [Instr.fieldAt, go_sem, add_none]
theorem fld_161_6 (n o : Nat) (w : World) : (Instr.fieldAt 161 (.pointer (some ⟨n, o, none⟩)) 6).run Try.prog w = .ok (.pointer (some ⟨n, o + 6, none⟩)) w := by
  simp [Instr.fieldAt, go_sem, add_none]
theorem fld_161_7 (n o : Nat) (w : World) : (Instr.fieldAt 161 (.pointer (some ⟨n, o, none⟩)) 7).run Try.prog w = .ok (.pointer (some ⟨n, o + 7, none⟩)) w := by
  simp [Instr.fieldAt, go_sem, add_none]
theorem fld_161_8 (n o : Nat) (w : World) : (Instr.fieldAt 161 (.pointer (some ⟨n, o, none⟩)) 8).run Try.prog w = .ok (.pointer (some ⟨n, o + 8, none⟩)) w := by
  simp [Instr.fieldAt, go_sem, add_none]
theorem fld_161_9 (n o : Nat) (w : World) : (Instr.fieldAt 161 (.pointer (some ⟨n, o, none⟩)) 9).run Try.prog w = .ok (.pointer (some ⟨n, o + 9, none⟩)) w := by
  simp [Instr.fieldAt, go_sem, add_none]
theorem fld_161_10 (n o : Nat) (w : World) : (Instr.fieldAt 161 (.pointer (some ⟨n, o, none⟩)) 10).run Try.prog w = .ok (.pointer (some ⟨n, o + 10, none⟩)) w := by
  simp [Instr.fieldAt, go_sem, add_none]
theorem fld_161 : ∀ (k off : Nat), ([some 0, some 1, some 2, some 3, some 4, some 5, some 6, some 7, some 8, some 9, some 10] : List (Option Nat))[k]? = some (some off) → ∀ (n o : Nat) (w : World), (Instr.fieldAt 161 (.pointer (some ⟨n, o, none⟩)) k).run Try.prog w = .ok (.pointer (some ⟨n, o + off, none⟩)) w
  | 0, _, h => by simp at h; subst h; exact fld_161_0
  | 1, _, h => by simp at h; subst h; exact fld_161_1
  | 2, _, h => by simp at h; subst h; exact fld_161_2
  | 3, _, h => by simp at h; subst h; exact fld_161_3
  | 4, _, h => by simp at h; subst h; exact fld_161_4
  | 5, _, h => by simp at h; subst h; exact fld_161_5
  | 6, _, h => by simp at h; subst h; exact fld_161_6
  | 7, _, h => by simp at h; subst h; exact fld_161_7
  | 8, _, h => by simp at h; subst h; exact fld_161_8
  | 9, _, h => by simp at h; subst h; exact fld_161_9
  | 10, _, h => by simp at h; subst h; exact fld_161_10
  | k + 11, _, h => by simp at h
theorem fld_162_0 (n o : Nat) (w : World) : (Instr.fieldAt 162 (.pointer (some ⟨n, o, none⟩)) 0).run Try.prog w = .ok (.pointer (some ⟨n, o + 0, none⟩)) w := by
  simp [Instr.fieldAt, go_sem, add_none]
theorem fld_162_1 (n o : Nat) (w : World) : (Instr.fieldAt 162 (.pointer (some ⟨n, o, none⟩)) 1).run Try.prog w = .ok (.pointer (some ⟨n, o + 1, none⟩)) w := by
  simp [Instr.fieldAt, go_sem, add_none]
theorem fld_162_2 (n o : Nat) (w : World) : (Instr.fieldAt 162 (.pointer (some ⟨n, o, none⟩)) 2).run Try.prog w = .ok (.pointer (some ⟨n, o + 2, none⟩)) w := by
  simp [Instr.fieldAt, go_sem, add_none]
theorem fld_162_3 (n o : Nat) (w : World) : (Instr.fieldAt 162 (.pointer (some ⟨n, o, none⟩)) 3).run Try.prog w = .ok (.pointer (some ⟨n, o + 3, none⟩)) w := by
  simp [Instr.fieldAt, go_sem, add_none]
theorem fld_162_4 (n o : Nat) (w : World) : (Instr.fieldAt 162 (.pointer (some ⟨n, o, none⟩)) 4).run Try.prog w = .ok (.pointer (some ⟨n, o + 4, none⟩)) w := by
  simp [Instr.fieldAt, go_sem, add_none]
theorem fld_162_5 (n o : Nat) (w : World) : (Instr.fieldAt 162 (.pointer (some ⟨n, o, none⟩)) 5).run Try.prog w = .ok (.pointer (some ⟨n, o + 5, none⟩)) w := by
  simp [Instr.fieldAt, go_sem, add_none]
theorem fld_162_6 (n o : Nat) (w : World) : (Instr.fieldAt 162 (.pointer (some ⟨n, o, none⟩)) 6).run Try.prog w = .ok (.pointer (some ⟨n, o + 6, none⟩)) w := by
  simp [Instr.fieldAt, go_sem, add_none]
theorem fld_162_7 (n o : Nat) (w : World) : (Instr.fieldAt 162 (.pointer (some ⟨n, o, none⟩)) 7).run Try.prog w = .ok (.pointer (some ⟨n, o + 7, none⟩)) w := by
  simp [Instr.fieldAt, go_sem, add_none]
theorem fld_162_8 (n o : Nat) (w : World) : (Instr.fieldAt 162 (.pointer (some ⟨n, o, none⟩)) 8).run Try.prog w = .ok (.pointer (some ⟨n, o + 8, none⟩)) w := by
  simp [Instr.fieldAt, go_sem, add_none]
theorem fld_162_9 (n o : Nat) (w : World) : (Instr.fieldAt 162 (.pointer (some ⟨n, o, none⟩)) 9).run Try.prog w = .ok (.pointer (some ⟨n, o + 9, none⟩)) w := by
  simp [Instr.fieldAt, go_sem, add_none]
theorem fld_162_10 (n o : Nat) (w : World) : (Instr.fieldAt 162 (.pointer (some ⟨n, o, none⟩)) 10).run Try.prog w = .ok (.pointer (some ⟨n, o + 10, none⟩)) w := by
  simp [Instr.fieldAt, go_sem, add_none]
theorem fld_162 : ∀ (k off : Nat), ([some 0, some 1, some 2, some 3, some 4, some 5, some 6, some 7, some 8, some 9, some 10] : List (Option Nat))[k]? = some (some off) → ∀ (n o : Nat) (w : World), (Instr.fieldAt 162 (.pointer (some ⟨n, o, none⟩)) k).run Try.prog w = .ok (.pointer (some ⟨n, o + off, none⟩)) w
  | 0, _, h => by simp at h; subst h; exact fld_162_0
  | 1, _, h => by simp at h; subst h; exact fld_162_1
  | 2, _, h => by simp at h; subst h; exact fld_162_2
  | 3, _, h => by simp at h; subst h; exact fld_162_3
  | 4, _, h => by simp at h; subst h; exact fld_162_4
  | 5, _, h => by simp at h; subst h; exact fld_162_5
  | 6, _, h => by simp at h; subst h; exact fld_162_6
  | 7, _, h => by simp at h; subst h; exact fld_162_7
  | 8, _, h => by simp at h; subst h; exact fld_162_8
  | 9, _, h => by simp at h; subst h; exact fld_162_9
  | 10, _, h => by simp at h; subst h; exact fld_162_10
  | k + 11, _, h => by simp at h
def fldL : List (Nat × List (Option Nat)) := [(7, [some 0, some 1, some 2, some 3]), (8, [some 0, some 1, some 2, some 3]), (13, [some 0, some 1]), (14, [some 0, some 1]), (18, [some 0]), (19, [some 0]), (24, [some 0, some 1, some 2, some 3, some 4, some 5, some 6, some 7, some 8, some 9, some 10]), (25, [some 0, some 1, some 2, some 3, some 4, some 5, some 6, some 7, some 8, some 9, some 10]), (30, [some 0, some 1, some 2, some 3, some 4, some 5, some 6, some 7, some 8]), (31, [some 0, some 1, some 2, some 3, some 4, some 5, some 6, some 7, some 8]), (35, [some 0, some 1, some 2, some 3]), (36, [some 0, some 1, some 2, some 3]), (39, [some 0, some 1, some 2, some 3, some 4]), (40, [some 0, some 1, some 2, some 3, some 4]), (50, [some 0, some 1, some 2, some 3, some 4, some 5]), (51, [some 0, some 1, some 2, some 3, some 4, some 5]), (54, [some 0, some 1]), (55, [some 0, some 1]), (56, [some 0, some 2]), (57, [some 0, some 2]), (75, [some 0, some 1]), (76, [some 0, some 1]), (79, [some 0]), (80, [some 0]), (83, [some 0, some 1]), (84, [some 0, some 1]), (85, [some 0, some 1]), (86, [some 0, some 1]), (109, [some 0, some 1]), (110, [some 0, some 1]), (127, [some 0, some 1, some 2, some 3, some 4]), (128, [some 0, some 1, some 2, some 3, some 4]), (131, [some 0, some 1]), (132, [some 0, some 1]), (151, [some 0, some 1, some 2, some 3]), (152, [some 0, some 1, some 2, some 3]), (154, [none]), (155, [none]), (161, [some 0, some 1, some 2, some 3, some 4, some 5, some 6, some 7, some 8, some 9, some 10]), (162, [some 0, some 1, some 2, some 3, some 4, some 5, some 6, some 7, some 8, some 9, some 10])]
set_option maxRecDepth 100000 in
theorem fldAll : ∀ x ∈ fldL, ∀ (k off : Nat), x.2[k]? = some (some off) → ∀ (n o : Nat) (w : World), (Instr.fieldAt x.1 (.pointer (some ⟨n, o, none⟩)) k).run Try.prog w = .ok (.pointer (some ⟨n, o + off, none⟩)) w :=
  (List.forall_mem_cons.2 ⟨fld_7, (List.forall_mem_cons.2 ⟨fld_8, (List.forall_mem_cons.2 ⟨fld_13, (List.forall_mem_cons.2 ⟨fld_14, (List.forall_mem_cons.2 ⟨fld_18, (List.forall_mem_cons.2 ⟨fld_19, (List.forall_mem_cons.2 ⟨fld_24, (List.forall_mem_cons.2 ⟨fld_25, (List.forall_mem_cons.2 ⟨fld_30, (List.forall_mem_cons.2 ⟨fld_31, (List.forall_mem_cons.2 ⟨fld_35, (List.forall_mem_cons.2 ⟨fld_36, (List.forall_mem_cons.2 ⟨fld_39, (List.forall_mem_cons.2 ⟨fld_40, (List.forall_mem_cons.2 ⟨fld_50, (List.forall_mem_cons.2 ⟨fld_51, (List.forall_mem_cons.2 ⟨fld_54, (List.forall_mem_cons.2 ⟨fld_55, (List.forall_mem_cons.2 ⟨fld_56, (List.forall_mem_cons.2 ⟨fld_57, (List.forall_mem_cons.2 ⟨fld_75, (List.forall_mem_cons.2 ⟨fld_76, (List.forall_mem_cons.2 ⟨fld_79, (List.forall_mem_cons.2 ⟨fld_80, (List.forall_mem_cons.2 ⟨fld_83, (List.forall_mem_cons.2 ⟨fld_84, (List.forall_mem_cons.2 ⟨fld_85, (List.forall_mem_cons.2 ⟨fld_86, (List.forall_mem_cons.2 ⟨fld_109, (List.forall_mem_cons.2 ⟨fld_110, (List.forall_mem_cons.2 ⟨fld_127, (List.forall_mem_cons.2 ⟨fld_128, (List.forall_mem_cons.2 ⟨fld_131, (List.forall_mem_cons.2 ⟨fld_132, (List.forall_mem_cons.2 ⟨fld_151, (List.forall_mem_cons.2 ⟨fld_152, (List.forall_mem_cons.2 ⟨fld_154, (List.forall_mem_cons.2 ⟨fld_155, (List.forall_mem_cons.2 ⟨fld_161, (List.forall_mem_cons.2 ⟨fld_162, (List.forall_mem_nil _)⟩)⟩)⟩)⟩)⟩)⟩)⟩)⟩)⟩)⟩)⟩)⟩)⟩)⟩)⟩)⟩)⟩)⟩)⟩)⟩)⟩)⟩)⟩)⟩)⟩)⟩)⟩)⟩)⟩)⟩)⟩)⟩)⟩)⟩)⟩)⟩)⟩)⟩)⟩)⟩)
def zerL : List (Nat × List Value) := [(1, [Value.nilFunc]), (2, [Value.int IntKind.i64 0]), (3, [Value.int IntKind.i64 0]), (4, [Value.bool false]), (5, [Value.int IntKind.u8 0]), (6, [Value.int IntKind.u8 0]), (7, [Value.int IntKind.i64 0, Value.int IntKind.i64 0, Value.bool false, Value.int IntKind.u8 0]), (8, [Value.int IntKind.i64 0, Value.int IntKind.i64 0, Value.bool false, Value.int IntKind.u8 0]), (9, [Value.string { data := #[] }]), (10, [Value.string { data := #[] }]), (11, [Value.string { data := #[] }]), (12, [Value.int IntKind.u64 0]), (13, [Value.string { data := #[] }, Value.int IntKind.u64 0]), (14, [Value.string { data := #[] }, Value.int IntKind.u64 0]), (15, [Value.pointer none]), (16, [Value.pointer none]), (17, [Value.pointer none]), (18, [Value.pointer none]), (19, [Value.pointer none]), (20, [Value.nilIface]), (21, [Value.int IntKind.i32 0]), (22, [Value.int IntKind.u32 0]), (23, [Value.slice none 0 0]), (24, [Value.int IntKind.i64 0, Value.int IntKind.i64 0, Value.bool false, Value.bool false, Value.int IntKind.i64 0, Value.int IntKind.i64 0, Value.int IntKind.i64 0, Value.int IntKind.u32 0, Value.int IntKind.u32 0, Value.slice none 0 0, Value.string { data := #[] }]), (25, [Value.int IntKind.i64 0, Value.int IntKind.i64 0, Value.bool false, Value.bool false, Value.int IntKind.i64 0, Value.int IntKind.i64 0, Value.int IntKind.i64 0, Value.int IntKind.u32 0, Value.int IntKind.u32 0, Value.slice none 0 0, Value.string { data := #[] }]), (26, [Value.nilFunc]), (27, [Value.nilFunc]), (28, [Value.pointer none]), (29, [Value.nilFunc]), (30, [Value.int IntKind.i64 0, Value.int IntKind.i64 0, Value.int IntKind.i64 0, Value.int IntKind.i64 0, Value.int IntKind.i64 0, Value.int IntKind.i64 0, Value.int IntKind.i64 0, Value.int IntKind.i64 0, Value.int IntKind.i64 0]), (31, [Value.int IntKind.i64 0, Value.int IntKind.i64 0, Value.int IntKind.i64 0, Value.int IntKind.i64 0, Value.int IntKind.i64 0, Value.int IntKind.i64 0, Value.int IntKind.i64 0, Value.int IntKind.i64 0, Value.int IntKind.i64 0]), (32, [Value.int IntKind.i64 0]), (34, [Value.nilFunc]), (35, [Value.int IntKind.i64 0, Value.int IntKind.i64 0, Value.int IntKind.u32 0, Value.string { data := #[] }]), (36, [Value.int IntKind.i64 0, Value.int IntKind.i64 0, Value.int IntKind.u32 0, Value.string { data := #[] }]), (38, [Value.nilFunc]), (39, [Value.int IntKind.u32 0, Value.int IntKind.u32 0, Value.int IntKind.i64 0, Value.int IntKind.i64 0, Value.int IntKind.i64 0]), (40, [Value.int IntKind.u32 0, Value.int IntKind.u32 0, Value.int IntKind.i64 0, Value.int IntKind.i64 0, Value.int IntKind.i64 0]), (42, [Value.nilFunc]), (43, [Value.nilFunc]), (44, [Value.nilFunc]), (45, [Value.nilFunc]), (46, [Value.nilFunc]), (47, [Value.nilFunc]), (48, [Value.slice none 0 0]), (49, [Value.nilFunc]), (50, [Value.int IntKind.i64 0, Value.int IntKind.i64 0, Value.int IntKind.i64 0, Value.int IntKind.u32 0, Value.int IntKind.u32 0, Value.int IntKind.i64 0, Value.int IntKind.i64 0, Value.bool false, Value.bool false, Value.int IntKind.i64 0, Value.int IntKind.i64 0, Value.int IntKind.i64 0, Value.int IntKind.u32 0, Value.int IntKind.u32 0, Value.slice none 0 0, Value.string { data := #[] }]), (51, [Value.int IntKind.i64 0, Value.int IntKind.i64 0, Value.int IntKind.i64 0, Value.int IntKind.u32 0, Value.int IntKind.u32 0, Value.int IntKind.i64 0, Value.int IntKind.i64 0, Value.bool false, Value.bool false, Value.int IntKind.i64 0, Value.int IntKind.i64 0, Value.int IntKind.i64 0, Value.int IntKind.u32 0, Value.int IntKind.u32 0, Value.slice none 0 0, Value.string { data := #[] }]), (52, [Value.nilFunc]), (53, [Value.nilFunc]), (54, [Value.int IntKind.i64 0, Value.int IntKind.i64 0]), (55, [Value.int IntKind.i64 0, Value.int IntKind.i64 0]), (56, [Value.int IntKind.i64 0, Value.int IntKind.i64 0, Value.int IntKind.i64 0]), (57, [Value.int IntKind.i64 0, Value.int IntKind.i64 0, Value.int IntKind.i64 0]), (59, [Value.nilFunc]), (60, [Value.nilFunc]), (61, [Value.nilFunc]), (62, [Value.nilFunc]), (63, [Value.nilFunc]), (64, [Value.nilFunc]), (66, [Value.nilFunc]), (67, [Value.nilFunc]), (68, [Value.nilFunc]), (69, [Value.nilFunc]), (71, [Value.nilFunc]), (72, [Value.nilFunc]), (74, [Value.nilFunc]), (75, [Value.int IntKind.i64 0, Value.string { data := #[] }]), (76, [Value.int IntKind.i64 0, Value.string { data := #[] }]), (77, [Value.nilFunc]), (78, [Value.pointer none]), (79, [Value.bool false]), (80, [Value.bool false]), (81, [Value.pointer none]), (82, [Value.slice none 0 0]), (83, [Value.pointer none, Value.slice none 0 0]), (84, [Value.pointer none, Value.slice none 0 0]), (85, [Value.bool false, Value.pointer none, Value.slice none 0 0]), (86, [Value.bool false, Value.pointer none, Value.slice none 0 0]), (87, [Value.nilFunc]), (88, [Value.nilFunc]), (89, [Value.nilFunc]), (90, [Value.nilFunc]), (91, [Value.nilFunc]), (92, [Value.nilFunc]), (93, [Value.nilFunc]), (94, [Value.nilFunc]), (95, [Value.int IntKind.u64 0]), (96, [Value.nilFunc]), (97, [Value.nilFunc]), (98, [Value.int IntKind.u8 0, Value.int IntKind.u8 0, Value.int IntKind.u8 0, Value.int IntKind.u8 0]), (99, [Value.nilFunc]), (100, [Value.nilFunc]), (101, [Value.pointer none]), (102, [Value.nilFunc]), (103, [Value.nilFunc]), (104, [Value.nilFunc]), (105, [Value.int IntKind.i64 0, Value.int IntKind.i64 0, Value.int IntKind.i64 0, Value.int IntKind.i64 0, Value.int IntKind.i64 0]), (106, [Value.nilFunc]), (107, [Value.nilFunc]), (108, [Value.slice none 0 0]), (109, [Value.int IntKind.i64 0, Value.int IntKind.i64 0]), (110, [Value.int IntKind.i64 0, Value.int IntKind.i64 0]), (111, [Value.int IntKind.i64 0, Value.int IntKind.i64 0, Value.int IntKind.i64 0, Value.int IntKind.i64 0, Value.int IntKind.i64 0, Value.int IntKind.i64 0, Value.int IntKind.i64 0, Value.int IntKind.i64 0, Value.int IntKind.i64 0, Value.int IntKind.i64 0]), (112, [Value.nilFunc]), (113, [Value.pointer none]), (114, [Value.nilFunc]), (115, [Value.slice none 0 0]), (116, [Value.slice none 0 0]), (117, [Value.nilIface]), (118, [Value.nilIface]), (120, [Value.nilFunc]), (121, [Value.nilFunc]), (122, [Value.nilFunc]), (123, [Value.nilFunc]), (124, [Value.nilFunc]), (125, [Value.nilFunc]), (126, [Value.pointer none]), (127, [Value.pointer none, Value.string { data := #[] }, Value.int IntKind.i64 0, Value.int IntKind.i64 0, Value.int IntKind.i64 0, Value.int IntKind.i64 0, Value.bool false, Value.bool false, Value.int IntKind.i64 0, Value.int IntKind.i64 0, Value.int IntKind.i64 0, Value.int IntKind.u32 0, Value.int IntKind.u32 0, Value.slice none 0 0, Value.string { data := #[] }]), (128, [Value.pointer none, Value.string { data := #[] }, Value.int IntKind.i64 0, Value.int IntKind.i64 0, Value.int IntKind.i64 0, Value.int IntKind.i64 0, Value.bool false, Value.bool false, Value.int IntKind.i64 0, Value.int IntKind.i64 0, Value.int IntKind.i64 0, Value.int IntKind.u32 0, Value.int IntKind.u32 0, Value.slice none 0 0, Value.string { data := #[] }]), (129, [Value.nilFunc]), (130, [Value.nilFunc, Value.nilFunc, Value.nilFunc]), (131, [Value.bool false, Value.string { data := #[] }]), (132, [Value.bool false, Value.string { data := #[] }]), (133, [Value.nilFunc]), (134, [Value.nilFunc]), (135, [Value.nilFunc]), (136, [Value.nilFunc]), (137, [Value.pointer none]), (138, [Value.pointer none]), (139, [Value.nilFunc]), (141, [Value.nilFunc]), (142, [Value.nilFunc]), (144, [Value.nilFunc]), (145, [Value.pointer none]), (146, [Value.nilFunc]), (147, [Value.nilFunc]), (148, [Value.nilFunc]), (150, [Value.nilFunc]), (151, [Value.pointer none, Value.pointer none, Value.pointer none, Value.string { data := #[] }]), (152, [Value.pointer none, Value.pointer none, Value.pointer none, Value.string { data := #[] }]), (153, []), (154, []), (155, []), (156, [Value.int IntKind.u8 0]), (157, [Value.int IntKind.u8 0]), (158, [Value.nilFunc]), (159, [Value.int IntKind.i32 0]), (160, [Value.int IntKind.i32 0]), (161, [Value.int IntKind.u64 0, Value.int IntKind.u64 0, Value.int IntKind.u32 0, Value.int IntKind.u8 0, Value.int IntKind.u8 0, Value.int IntKind.u8 0, Value.int IntKind.u8 0, Value.nilFunc, Value.pointer none, Value.int IntKind.i32 0, Value.int IntKind.i32 0]), (162, [Value.int IntKind.u64 0, Value.int IntKind.u64 0, Value.int IntKind.u32 0, Value.int IntKind.u8 0, Value.int IntKind.u8 0, Value.int IntKind.u8 0, Value.int IntKind.u8 0, Value.nilFunc, Value.pointer none, Value.int IntKind.i32 0, Value.int IntKind.i32 0])]
set_option maxRecDepth 100000 in
theorem zerAll : ∀ x ∈ zerL, ∀ w, ∃ z, (zeroValue x.1).run Try.prog w = .ok z w ∧ z.cells = x.2.toArray :=
  (List.forall_mem_cons.2 ⟨fun w => ⟨_, Try.zeroValue1 w, rfl⟩, (List.forall_mem_cons.2 ⟨fun w => ⟨_, Try.zeroValue2 w, rfl⟩, (List.forall_mem_cons.2 ⟨fun w => ⟨_, Try.zeroValue3 w, rfl⟩, (List.forall_mem_cons.2 ⟨fun w => ⟨_, Try.zeroValue4 w, rfl⟩, (List.forall_mem_cons.2 ⟨fun w => ⟨_, Try.zeroValue5 w, rfl⟩, (List.forall_mem_cons.2 ⟨fun w => ⟨_, Try.zeroValue6 w, rfl⟩, (List.forall_mem_cons.2 ⟨fun w => ⟨_, Try.zeroValue7 w, rfl⟩, (List.forall_mem_cons.2 ⟨fun w => ⟨_, Try.zeroValue8 w, rfl⟩, (List.forall_mem_cons.2 ⟨fun w => ⟨_, Try.zeroValue9 w, rfl⟩, (List.forall_mem_cons.2 ⟨fun w => ⟨_, Try.zeroValue10 w, rfl⟩, (List.forall_mem_cons.2 ⟨fun w => ⟨_, Try.zeroValue11 w, rfl⟩, (List.forall_mem_cons.2 ⟨fun w => ⟨_, Try.zeroValue12 w, rfl⟩, (List.forall_mem_cons.2 ⟨fun w => ⟨_, Try.zeroValue13 w, rfl⟩, (List.forall_mem_cons.2 ⟨fun w => ⟨_, Try.zeroValue14 w, rfl⟩, (List.forall_mem_cons.2 ⟨fun w => ⟨_, Try.zeroValue15 w, rfl⟩, (List.forall_mem_cons.2 ⟨fun w => ⟨_, Try.zeroValue16 w, rfl⟩, (List.forall_mem_cons.2 ⟨fun w => ⟨_, Try.zeroValue17 w, rfl⟩, (List.forall_mem_cons.2 ⟨fun w => ⟨_, Try.zeroValue18 w, rfl⟩, (List.forall_mem_cons.2 ⟨fun w => ⟨_, Try.zeroValue19 w, rfl⟩, (List.forall_mem_cons.2 ⟨fun w => ⟨_, Try.zeroValue20 w, rfl⟩, (List.forall_mem_cons.2 ⟨fun w => ⟨_, Try.zeroValue21 w, rfl⟩, (List.forall_mem_cons.2 ⟨fun w => ⟨_, Try.zeroValue22 w, rfl⟩, (List.forall_mem_cons.2 ⟨fun w => ⟨_, Try.zeroValue23 w, rfl⟩, (List.forall_mem_cons.2 ⟨fun w => ⟨_, Try.zeroValue24 w, rfl⟩, (List.forall_mem_cons.2 ⟨fun w => ⟨_, Try.zeroValue25 w, rfl⟩, (List.forall_mem_cons.2 ⟨fun w => ⟨_, Try.zeroValue26 w, rfl⟩, (List.forall_mem_cons.2 ⟨fun w => ⟨_, Try.zeroValue27 w, rfl⟩, (List.forall_mem_cons.2 ⟨fun w => ⟨_, Try.zeroValue28 w, rfl⟩, (List.forall_mem_cons.2 ⟨fun w => ⟨_, Try.zeroValue29 w, rfl⟩, (List.forall_mem_cons.2 ⟨fun w => ⟨_, Try.zeroValue30 w, rfl⟩, (List.forall_mem_cons.2 ⟨fun w => ⟨_, Try.zeroValue31 w, rfl⟩, (List.forall_mem_cons.2 ⟨fun w => ⟨_, Try.zeroValue32 w, rfl⟩, (List.forall_mem_cons.2 ⟨fun w => ⟨_, Try.zeroValue34 w, rfl⟩, (List.forall_mem_cons.2 ⟨fun w => ⟨_, Try.zeroValue35 w, rfl⟩, (List.forall_mem_cons.2 ⟨fun w => ⟨_, Try.zeroValue36 w, rfl⟩, (List.forall_mem_cons.2 ⟨fun w => ⟨_, Try.zeroValue38 w, rfl⟩, (List.forall_mem_cons.2 ⟨fun w => ⟨_, Try.zeroValue39 w, rfl⟩, (List.forall_mem_cons.2 ⟨fun w => ⟨_, Try.zeroValue40 w, rfl⟩, (List.forall_mem_cons.2 ⟨fun w => ⟨_, Try.zeroValue42 w, rfl⟩, (List.forall_mem_cons.2 ⟨fun w => ⟨_, Try.zeroValue43 w, rfl⟩, (List.forall_mem_cons.2 ⟨fun w => ⟨_, Try.zeroValue44 w, rfl⟩, (List.forall_mem_cons.2 ⟨fun w => ⟨_, Try.zeroValue45 w, rfl⟩, (List.forall_mem_cons.2 ⟨fun w => ⟨_, Try.zeroValue46 w, rfl⟩, (List.forall_mem_cons.2 ⟨fun w => ⟨_, Try.zeroValue47 w, rfl⟩, (List.forall_mem_cons.2 ⟨fun w => ⟨_, Try.zeroValue48 w, rfl⟩, (List.forall_mem_cons.2 ⟨fun w => ⟨_, Try.zeroValue49 w, rfl⟩, (List.forall_mem_cons.2 ⟨fun w => ⟨_, Try.zeroValue50 w, rfl⟩, (List.forall_mem_cons.2 ⟨fun w => ⟨_, Try.zeroValue51 w, rfl⟩, (List.forall_mem_cons.2 ⟨fun w => ⟨_, Try.zeroValue52 w, rfl⟩, (List.forall_mem_cons.2 ⟨fun w => ⟨_, Try.zeroValue53 w, rfl⟩, (List.forall_mem_cons.2 ⟨fun w => ⟨_, Try.zeroValue54 w, rfl⟩, (List.forall_mem_cons.2 ⟨fun w => ⟨_, Try.zeroValue55 w, rfl⟩, (List.forall_mem_cons.2 ⟨fun w => ⟨_, Try.zeroValue56 w, rfl⟩, (List.forall_mem_cons.2 ⟨fun w => ⟨_, Try.zeroValue57 w, rfl⟩, (List.forall_mem_cons.2 ⟨fun w => ⟨_, Try.zeroValue59 w, rfl⟩, (List.forall_mem_cons.2 ⟨fun w => ⟨_, Try.zeroValue60 w, rfl⟩, (List.forall_mem_cons.2 ⟨fun w => ⟨_, Try.zeroValue61 w, rfl⟩, (List.forall_mem_cons.2 ⟨fun w => ⟨_, Try.zeroValue62 w, rfl⟩, (List.forall_mem_cons.2 ⟨fun w => ⟨_, Try.zeroValue63 w, rfl⟩, (List.forall_mem_cons.2 ⟨fun w => ⟨_, Try.zeroValue64 w, rfl⟩, (List.forall_mem_cons.2 ⟨fun w => ⟨_, Try.zeroValue66 w, rfl⟩, (List.forall_mem_cons.2 ⟨fun w => ⟨_, Try.zeroValue67 w, rfl⟩, (List.forall_mem_cons.2 ⟨fun w => ⟨_, Try.zeroValue68 w, rfl⟩, (List.forall_mem_cons.2 ⟨fun w => ⟨_, Try.zeroValue69 w, rfl⟩, (List.forall_mem_cons.2 ⟨fun w => ⟨_, Try.zeroValue71 w, rfl⟩, (List.forall_mem_cons.2 ⟨fun w => ⟨_, Try.zeroValue72 w, rfl⟩, (List.forall_mem_cons.2 ⟨fun w => ⟨_, Try.zeroValue74 w, rfl⟩, (List.forall_mem_cons.2 ⟨fun w => ⟨_, Try.zeroValue75 w, rfl⟩, (List.forall_mem_cons.2 ⟨fun w => ⟨_, Try.zeroValue76 w, rfl⟩, (List.forall_mem_cons.2 ⟨fun w => ⟨_, Try.zeroValue77 w, rfl⟩, (List.forall_mem_cons.2 ⟨fun w => ⟨_, Try.zeroValue78 w, rfl⟩, (List.forall_mem_cons.2 ⟨fun w => ⟨_, Try.zeroValue79 w, rfl⟩, (List.forall_mem_cons.2 ⟨fun w => ⟨_, Try.zeroValue80 w, rfl⟩, (List.forall_mem_cons.2 ⟨fun w => ⟨_, Try.zeroValue81 w, rfl⟩, (List.forall_mem_cons.2 ⟨fun w => ⟨_, Try.zeroValue82 w, rfl⟩, (List.forall_mem_cons.2 ⟨fun w => ⟨_, Try.zeroValue83 w, rfl⟩, (List.forall_mem_cons.2 ⟨fun w => ⟨_, Try.zeroValue84 w, rfl⟩, (List.forall_mem_cons.2 ⟨fun w => ⟨_, Try.zeroValue85 w, rfl⟩, (List.forall_mem_cons.2 ⟨fun w => ⟨_, Try.zeroValue86 w, rfl⟩, (List.forall_mem_cons.2 ⟨fun w => ⟨_, Try.zeroValue87 w, rfl⟩, (List.forall_mem_cons.2 ⟨fun w => ⟨_, Try.zeroValue88 w, rfl⟩, (List.forall_mem_cons.2 ⟨fun w => ⟨_, Try.zeroValue89 w, rfl⟩, (List.forall_mem_cons.2 ⟨fun w => ⟨_, Try.zeroValue90 w, rfl⟩, (List.forall_mem_cons.2 ⟨fun w => ⟨_, Try.zeroValue91 w, rfl⟩, (List.forall_mem_cons.2 ⟨fun w => ⟨_, Try.zeroValue92 w, rfl⟩, (List.forall_mem_cons.2 ⟨fun w => ⟨_, Try.zeroValue93 w, rfl⟩, (List.forall_mem_cons.2 ⟨fun w => ⟨_, Try.zeroValue94 w, rfl⟩, (List.forall_mem_cons.2 ⟨fun w => ⟨_, Try.zeroValue95 w, rfl⟩, (List.forall_mem_cons.2 ⟨fun w => ⟨_, Try.zeroValue96 w, rfl⟩, (List.forall_mem_cons.2 ⟨fun w => ⟨_, Try.zeroValue97 w, rfl⟩, (List.forall_mem_cons.2 ⟨fun w => ⟨_, Try.zeroValue98 w, rfl⟩, (List.forall_mem_cons.2 ⟨fun w => ⟨_, Try.zeroValue99 w, rfl⟩, (List.forall_mem_cons.2 ⟨fun w => ⟨_, Try.zeroValue100 w, rfl⟩, (List.forall_mem_cons.2 ⟨fun w => ⟨_, Try.zeroValue101 w, rfl⟩, (List.forall_mem_cons.2 ⟨fun w => ⟨_, Try.zeroValue102 w, rfl⟩, (List.forall_mem_cons.2 ⟨fun w => ⟨_, Try.zeroValue103 w, rfl⟩, (List.forall_mem_cons.2 ⟨fun w => ⟨_, Try.zeroValue104 w, rfl⟩, (List.forall_mem_cons.2 ⟨fun w => ⟨_, Try.zeroValue105 w, rfl⟩, (List.forall_mem_cons.2 ⟨fun w => ⟨_, Try.zeroValue106 w, rfl⟩, (List.forall_mem_cons.2 ⟨fun w => ⟨_, Try.zeroValue107 w, rfl⟩, (List.forall_mem_cons.2 ⟨fun w => ⟨_, Try.zeroValue108 w, rfl⟩, (List.forall_mem_cons.2 ⟨fun w => ⟨_, Try.zeroValue109 w, rfl⟩, (List.forall_mem_cons.2 ⟨fun w => ⟨_, Try.zeroValue110 w, rfl⟩, (List.forall_mem_cons.2 ⟨fun w => ⟨_, Try.zeroValue111 w, rfl⟩, (List.forall_mem_cons.2 ⟨fun w => ⟨_, Try.zeroValue112 w, rfl⟩, (List.forall_mem_cons.2 ⟨fun w => ⟨_, Try.zeroValue113 w, rfl⟩, (List.forall_mem_cons.2 ⟨fun w => ⟨_, Try.zeroValue114 w, rfl⟩, (List.forall_mem_cons.2 ⟨fun w => ⟨_, Try.zeroValue115 w, rfl⟩, (List.forall_mem_cons.2 ⟨fun w => ⟨_, Try.zeroValue116 w, rfl⟩, (List.forall_mem_cons.2 ⟨fun w => ⟨_, Try.zeroValue117 w, rfl⟩, (List.forall_mem_cons.2 ⟨fun w => ⟨_, Try.zeroValue118 w, rfl⟩, (List.forall_mem_cons.2 ⟨fun w => ⟨_, Try.zeroValue120 w, rfl⟩, (List.forall_mem_cons.2 ⟨fun w => ⟨_, Try.zeroValue121 w, rfl⟩, (List.forall_mem_cons.2 ⟨fun w => ⟨_, Try.zeroValue122 w, rfl⟩, (List.forall_mem_cons.2 ⟨fun w => ⟨_, Try.zeroValue123 w, rfl⟩, (List.forall_mem_cons.2 ⟨fun w => ⟨_, Try.zeroValue124 w, rfl⟩, (List.forall_mem_cons.2 ⟨fun w => ⟨_, Try.zeroValue125 w, rfl⟩, (List.forall_mem_cons.2 ⟨fun w => ⟨_, Try.zeroValue126 w, rfl⟩, (List.forall_mem_cons.2 ⟨fun w => ⟨_, Try.zeroValue127 w, rfl⟩, (List.forall_mem_cons.2 ⟨fun w => ⟨_, Try.zeroValue128 w, rfl⟩, (List.forall_mem_cons.2 ⟨fun w => ⟨_, Try.zeroValue129 w, rfl⟩, (List.forall_mem_cons.2 ⟨fun w => ⟨_, Try.zeroValue130 w, rfl⟩, (List.forall_mem_cons.2 ⟨fun w => ⟨_, Try.zeroValue131 w, rfl⟩, (List.forall_mem_cons.2 ⟨fun w => ⟨_, Try.zeroValue132 w, rfl⟩, (List.forall_mem_cons.2 ⟨fun w => ⟨_, Try.zeroValue133 w, rfl⟩, (List.forall_mem_cons.2 ⟨fun w => ⟨_, Try.zeroValue134 w, rfl⟩, (List.forall_mem_cons.2 ⟨fun w => ⟨_, Try.zeroValue135 w, rfl⟩, (List.forall_mem_cons.2 ⟨fun w => ⟨_, Try.zeroValue136 w, rfl⟩, (List.forall_mem_cons.2 ⟨fun w => ⟨_, Try.zeroValue137 w, rfl⟩, (List.forall_mem_cons.2 ⟨fun w => ⟨_, Try.zeroValue138 w, rfl⟩, (List.forall_mem_cons.2 ⟨fun w => ⟨_, Try.zeroValue139 w, rfl⟩, (List.forall_mem_cons.2 ⟨fun w => ⟨_, Try.zeroValue141 w, rfl⟩, (List.forall_mem_cons.2 ⟨fun w => ⟨_, Try.zeroValue142 w, rfl⟩, (List.forall_mem_cons.2 ⟨fun w => ⟨_, Try.zeroValue144 w, rfl⟩, (List.forall_mem_cons.2 ⟨fun w => ⟨_, Try.zeroValue145 w, rfl⟩, (List.forall_mem_cons.2 ⟨fun w => ⟨_, Try.zeroValue146 w, rfl⟩, (List.forall_mem_cons.2 ⟨fun w => ⟨_, Try.zeroValue147 w, rfl⟩, (List.forall_mem_cons.2 ⟨fun w => ⟨_, Try.zeroValue148 w, rfl⟩, (List.forall_mem_cons.2 ⟨fun w => ⟨_, Try.zeroValue150 w, rfl⟩, (List.forall_mem_cons.2 ⟨fun w => ⟨_, Try.zeroValue151 w, rfl⟩, (List.forall_mem_cons.2 ⟨fun w => ⟨_, Try.zeroValue152 w, rfl⟩, (List.forall_mem_cons.2 ⟨fun w => ⟨_, Try.zeroValue153 w, rfl⟩, (List.forall_mem_cons.2 ⟨fun w => ⟨_, Try.zeroValue154 w, rfl⟩, (List.forall_mem_cons.2 ⟨fun w => ⟨_, Try.zeroValue155 w, rfl⟩, (List.forall_mem_cons.2 ⟨fun w => ⟨_, Try.zeroValue156 w, rfl⟩, (List.forall_mem_cons.2 ⟨fun w => ⟨_, Try.zeroValue157 w, rfl⟩, (List.forall_mem_cons.2 ⟨fun w => ⟨_, Try.zeroValue158 w, rfl⟩, (List.forall_mem_cons.2 ⟨fun w => ⟨_, Try.zeroValue159 w, rfl⟩, (List.forall_mem_cons.2 ⟨fun w => ⟨_, Try.zeroValue160 w, rfl⟩, (List.forall_mem_cons.2 ⟨fun w => ⟨_, Try.zeroValue161 w, rfl⟩, (List.forall_mem_cons.2 ⟨fun w => ⟨_, Try.zeroValue162 w, rfl⟩, (List.forall_mem_nil _)⟩)⟩)⟩)⟩)⟩)⟩)⟩)⟩)⟩)⟩)⟩)⟩)⟩)⟩)⟩)⟩)⟩)⟩)⟩)⟩)⟩)⟩)⟩)⟩)⟩)⟩)⟩)⟩)⟩)⟩)⟩)⟩)⟩)⟩)⟩)⟩)⟩)⟩)⟩)⟩)⟩)⟩)⟩)⟩)⟩)⟩)⟩)⟩)⟩)⟩)⟩)⟩)⟩)⟩)⟩)⟩)⟩)⟩)⟩)⟩)⟩)⟩)⟩)⟩)⟩)⟩)⟩)⟩)⟩)⟩)⟩)⟩)⟩)⟩)⟩)⟩)⟩)⟩)⟩)⟩)⟩)⟩)⟩)⟩)⟩)⟩)⟩)⟩)⟩)⟩)⟩)⟩)⟩)⟩)⟩)⟩)⟩)⟩)⟩)⟩)⟩)⟩)⟩)⟩)⟩)⟩)⟩)⟩)⟩)⟩)⟩)⟩)⟩)⟩)⟩)⟩)⟩)⟩)⟩)⟩)⟩)⟩)⟩)⟩)⟩)⟩)⟩)⟩)⟩)⟩)⟩)⟩)⟩)⟩)⟩)⟩)⟩)⟩)⟩)⟩)⟩)⟩)⟩)⟩)⟩)⟩)⟩)⟩)⟩)⟩)⟩)
section
variable {w0 : World} {S : List Nat} {Q : SP} {rs : List Res} {ops : Array Oper} {l l' : List Value} {ds : List Deferred} {rest : List Oper} {d : Tmp} {ty : TypeId} {pos : String} {aft : Array Edge} {gd : Option (Nat × Bool)} {dt : Option Tmp}
/-- A guard that was passed over itself. -/
theorem unwant_u {ol : List Oper} {o : Oper} {g : Nat} {t : Tmp} {b : Bool} (hg : o.guard = some (g, b)) (ht : (ol[g]?).bind (·.dst) = some t) (hb : opnd l (.tmp t) = some undef) : Region.wanted o (yielded ol.toArray l.toArray) = false := by
  simp only [opnd] at hb
  simp [Region.wanted, hg, yielded, ht, hb, undef]
theorem aggT {T : TypeId} (h : look aggL T = some true) : ∀ w, (isAgg T).run Try.prog w = .ok true w := aggAll _ (look_mem h)
theorem aggF {T : TypeId} (h : look aggL T = some false) : ∀ w, (isAgg T).run Try.prog w = .ok false w := aggAll _ (look_mem h)
theorem sizT {T n : Nat} (h : look sizL T = some n) : ∀ w, (sizeOf T).run Try.prog w = .ok n w := sizAll _ (look_mem h)
theorem run_call {f : FuncId} {xs : List Operand} {ts : Array TypeId} {vs : List Value} (hx : opnds l xs = some vs) (h : look calL f = some ()) (w : World) :
    (execOp (Act.eval ⟨l.toArray, ds⟩) ⟨dt, .call { callee := .value (.func f), args := xs.toArray, argTypes := ts }, ty, pos, aft, gd⟩).run Try.prog w = .ok (.enter f vs.toArray) w := by
  have key : ∀ (xs : List Operand) (vs : List Value), opnds l xs = some vs → xs.map (Act.eval ⟨l.toArray, ds⟩) = vs := by
    intro xs
    induction xs with
    | nil => intro vs h; simp only [opnds] at h; injection h
    | cons x xs ih =>
      intro vs h
      simp only [opnds] at h
      split at h
      · rename_i v us h1 h2
        injection h with h
        subst h
        rw [List.map_cons, opnd_eval h1, ih us h2]
      · cases h
  have hf : Act.eval ⟨l.toArray, ds⟩ (.func f) = .func (.func f) #[] #[] := rfl
  simp only [execOp, Sem.run_bind, resolve, hf, Deferred.ofValue, List.map_toArray, key xs vs hx, Sem.run_pure, Result.andThen_ok, invoke]
  have := calAll _ (look_mem h) vs.toArray w
  simpa using this
theorem opv_fld {T : TypeId} {x : Operand} {f n o off o' : Nat} (hx : opnd l x = some (.pointer (some ⟨n, o, none⟩))) {offs : List (Option Nat)} (h : look fldL T = some offs) (hk : offs[f]? = some (some off)) (ho : o + off = o') :
    OpVal Try.prog w0 S rs l ds ⟨dt, .fieldAddr T x f, ty, pos, aft, gd⟩ (.pointer (some ⟨n, o', none⟩)) := by
  subst ho
  exact opv_fieldAddr hx (fun w _ => fldAll _ (look_mem h) f off hk n o w)
/-- What a load of a known block's cells yields. -/
def LoadV (T : TypeId) (cs : List Value) (off : Nat) (v : Value) : Prop := ∀ (w : World) (n : Nat) (t : TypeId), Blk w n cs t → (Instr.loadAt T (.pointer (some ⟨n, off, none⟩))).run Try.prog w = .ok v w
theorem LoadV.one {T : TypeId} {cs : List Value} {off : Nat} {v : Value} (hT : look aggL T = some false) (hv : cs[off]? = some v) : LoadV T cs off v := fun w n t hb =>
  run_load1 (aggF hT) (by rw [hb.cell]; simpa using hv)
theorem LoadV.whole {T : TypeId} {cs : List Value} (hT : look aggL T = some true) (hz : look sizL T = some cs.length) : LoadV T cs 0 (.agg cs.toArray) := fun w n t hb =>
  run_loadN (aggT hT) (sizT hz) (fun j v hj => by rw [hb.cell]; simpa using hj)
theorem LoadV.part {T : TypeId} {cs vs : List Value} {off m : Nat} (hT : look aggL T = some true) (hz : look sizL T = some m) (hv : (cs.drop off).take m = vs) (hm : vs.length = m) : LoadV T cs off (.agg vs.toArray) := fun w n t hb => by
  subst hm
  refine run_loadN (aggT hT) (sizT hz) (fun j v hj => ?_)
  rw [hb.cell]
  have hlt := (List.getElem?_eq_some_iff.1 hj).1
  rw [← hv, List.getElem?_take, if_pos hlt, List.getElem?_drop] at hj
  simpa using hj
theorem opv_load {T : TypeId} {x : Operand} {n off : Nat} {v : Value} {cs : List Value} {t : TypeId} (hx : opnd l x = some (.pointer (some ⟨n, off, none⟩))) (hm : blk n cs t ∈ rs) (hv : LoadV T cs off v) :
    OpVal Try.prog w0 S rs l ds ⟨dt, .load T x, ty, pos, aft, gd⟩ v := fun w hs => by
  simp only [execOp, opnd_eval hx, Sem.run_bind, hv w n t (hs.all _ hm)]; rfl
/-- One of the things is another one now. -/
inductive Upd (r r' : Res) : List Res → List Res → Prop
  | head {tl : List Res} : Upd r r' (r :: tl) (r' :: tl)
  | tail {x : Res} {tl tl' : List Res} : Upd r r' tl tl' → Upd r r' (x :: tl) (x :: tl')
theorem Upd.split {r r' : Res} {a b : List Res} (h : Upd r r' a b) : ∃ pre post, a = pre ++ r :: post ∧ b = pre ++ r' :: post := by
  induction h with
  | head => exact ⟨[], _, rfl, rfl⟩
  | tail _ ih => obtain ⟨pre, post, rfl, rfl⟩ := ih; exact ⟨_ :: pre, post, rfl, rfl⟩
theorem Sep.updU {w w' : World} {r r' : Res} {rs' : List Res} (h : Sep w0 S rs w) (hu : Upd r r' rs rs') (hm : Mod r.foot w w') (hr : r'.holds w') (hf : ∀ n ∈ r'.foot, n ∈ r.foot ∨ w.heap.size ≤ n) : Sep w0 S rs' w' := by
  obtain ⟨pre, post, rfl, rfl⟩ := hu.split
  exact h.upd hm hr hf
theorem Upd.mem {r r' : Res} {a b : List Res} (h : Upd r r' a b) : r ∈ a := by obtain ⟨pre, post, rfl, rfl⟩ := h.split; simp
/-- What a store makes of a block's cells. -/
def StoreV (T : TypeId) (cs : List Value) (off : Nat) (v : Value) (cs' : List Value) : Prop := ∀ (w : World) (n : Nat) (t : TypeId), Blk w n cs t → ∃ w', (Instr.storeAt T (.pointer (some ⟨n, off, none⟩)) v).run Try.prog w = .ok () w' ∧ Blk w' n cs' t ∧ Mod [n] w w' ∧ OnlyAt n w w'
theorem StoreV.one {T : TypeId} {cs cs' : List Value} {off : Nat} {v : Value} (hz : look sizL T = some 1) (h1 : v.oneCell' = true) (hlt : off < cs.length) (hc : cs.set off v = cs') : StoreV T cs off v cs' := fun w n t hb => by
  subst hc
  exact ⟨_, run_store1 (sizT hz) h1 (show w.cell? ⟨n, off, none⟩ = some cs[off] by rw [hb.cell]; simp [hlt]) (hb.free off), hb.set off v, (Mod.refl _ _).setCell (fun _ => by simp) v, rfl, rfl, rfl, by simp, fun j hj => Below.heap_setCell _ _ _ _ hj⟩
theorem StoreV.many {T : TypeId} {cs cs' vs : List Value} {off : Nat} (hz : look sizL T = some vs.length) (h1 : vs.all (·.oneCell') = true) (hlt : off + vs.length ≤ cs.length) (hc : cs.take off ++ vs ++ cs.drop (off + vs.length) = cs') : StoreV T cs off (.agg vs.toArray) cs' := fun w n t hb => by
  subst hc
  exact ⟨_, run_storeN (sizT hz) (by simpa using h1) hb hlt, setRow_heap w n _ _ _ _ hb, ⟨rfl, rfl, rfl, by simp, fun j hj hn => setRow_other w n j _ (by simpa using hn)⟩, rfl, rfl, rfl, by simp, fun j hj => setRow_other w n j _ hj⟩
theorem seqS_store {T : TypeId} {x y : Operand} {n off : Nat} {v : Value} {cs cs' : List Value} {t : TypeId} {rs' : List Res} (hw : Region.wanted ⟨none, .store T x y, ty, pos, aft, gd⟩ (yielded ops l.toArray) = true)
    (hx : opnd l x = some (.pointer (some ⟨n, off, none⟩))) (hy : opnd l y = some v) (hu : Upd (blk n cs t) (blk n cs' t) rs rs') (hv : StoreV T cs off v cs')
    (h : seqS Try.prog w0 S ops Q rest ⟨l.toArray, ds⟩ rs') : seqS Try.prog w0 S ops Q (⟨none, .store T x y, ty, pos, aft, gd⟩ :: rest) ⟨l.toArray, ds⟩ rs :=
  seqS_put hw rfl (fun w hs => by
    obtain ⟨w', hr, hb, hm, _⟩ := hv w n t (hs.all _ hu.mem)
    refine ⟨w', ?_, hs.updU hu hm hb (by simp [blk])⟩
    simp only [execOp, opnd_eval hx, opnd_eval hy, Sem.run_bind, hr]
    rfl) h
theorem RV.load {T : TypeId} {a : Tmp} {n off : Nat} {v : Value} {cs : List Value} {t : TypeId} (ha : opnd l (.tmp a) = some (.pointer (some ⟨n, off, none⟩))) (hm : blk n cs t ∈ rs) (hv : LoadV T cs off v) : RV Try.prog w0 S rs l (.cell a T) v := fun w hs => by
  have := hv w n t (hs.all _ hm)
  simp only [opnd] at ha
  simp only [Instr.loadAt, Instr.sureAddr, Sem.run_bind, Sem.run_pure, Result.andThen_ok] at this
  simp only [rvar, Array.getD_eq_getD_getElem?, List.getElem?_toArray, ha, Option.getD_some, asAddr, Sem.run_bind, Sem.run_pure, Result.andThen_ok, this]
/-- A call that turns one thing. -/
theorem seqS_callU {f : FuncId} {xs : List Operand} {ts : Array TypeId} {vs : List Value} {v : Value} {r r' : Res} {rs' : List Res} (hw : Region.wanted ⟨some d, .call { callee := .value (.func f), args := xs.toArray, argTypes := ts }, ty, pos, aft, gd⟩ (yielded ops l.toArray) = true)
    (hx : opnds l xs = some vs) (hf : look calL f = some ()) (hu : Upd r r' rs rs') (hff : r'.foot = r.foot)
    (hc : ∀ w, Sep w0 S rs w → r.holds w → Calls Try.prog f vs.toArray w (fun e w' => e = .returned v ∧ r'.holds w' ∧ Mod r.foot w w')) (hl : l.set d v = l')
    (h : seqS Try.prog w0 S ops Q rest ⟨l'.toArray, ds⟩ rs') :
    seqS Try.prog w0 S ops Q (⟨some d, .call { callee := .value (.func f), args := xs.toArray, argTypes := ts }, ty, pos, aft, gd⟩ :: rest) ⟨l.toArray, ds⟩ rs :=
  seqS_call (Φ := fun u q => u = v ∧ q = rs') hw hx (fun w => run_call hx hf w) (fun w hs => (hc w hs (hs.all _ hu.mem)).mono fun e w' ⟨he, hr, hm⟩ => ⟨v, _, he, ⟨rfl, rfl⟩, hs.updU hu hm hr (by rw [hff]; exact fun n hn => .inl hn)⟩)
    (fun u q l2 hl2 ⟨hu, hq⟩ => by subst hu; subst hq; rw [hl] at hl2; subst hl2; exact h)
/-- A call of a function value. -/
theorem run_callv {x : Operand} {f : FuncId} {first caps : List Value} {xs : List Operand} {ts : Array TypeId} {vs all : List Value} (hf : opnd l x = some (.func (.func f) first.toArray caps.toArray)) (hx : opnds l xs = some vs) (h : look calL f = some ()) (ha : first ++ vs ++ caps = all) (w : World) :
    (execOp (Act.eval ⟨l.toArray, ds⟩) ⟨dt, .call { callee := .value x, args := xs.toArray, argTypes := ts }, ty, pos, aft, gd⟩).run Try.prog w = .ok (.enter f all.toArray) w := by
  have key : ∀ (xs : List Operand) (vs : List Value), opnds l xs = some vs → xs.map (Act.eval ⟨l.toArray, ds⟩) = vs := by
    intro xs
    induction xs with
    | nil => intro vs h; simp only [opnds] at h; injection h
    | cons x xs ih =>
      intro vs h
      simp only [opnds] at h
      split at h
      · rename_i v us h1 h2
        injection h with h
        subst h
        rw [List.map_cons, opnd_eval h1, ih us h2]
      · cases h
  subst ha
  simp only [execOp, Sem.run_bind, resolve, opnd_eval hf, Deferred.ofValue, List.map_toArray, key xs vs hx, Sem.run_pure, Result.andThen_ok, invoke]
  have := calAll _ (look_mem h) (first ++ vs ++ caps).toArray w
  simpa using this
theorem seqS_enter0 {o : Oper} {f : FuncId} {vs : List Value} {v : Value} (hw : Region.wanted o (yielded ops l.toArray) = true) (hd : o.dst = some d) (he : ∀ w, (execOp (Act.eval ⟨l.toArray, ds⟩) o).run Try.prog w = .ok (.enter f vs.toArray) w)
    (hc : ∀ w, Sep w0 S rs w → Calls Try.prog f vs.toArray w (fun e w' => e = .returned v ∧ Mod [] w w')) (hl : l.set d v = l')
    (h : seqS Try.prog w0 S ops Q rest ⟨l'.toArray, ds⟩ rs) : seqS Try.prog w0 S ops Q (o :: rest) ⟨l.toArray, ds⟩ rs :=
  seqS_act (Φ := fun u rs' => u = v ∧ rs' = rs) hw (fun w hs => by
    rw [he w]
    refine (hc w hs).mono ?_
    rintro e w' ⟨rfl, hm⟩
    exact ⟨v, rs, rfl, ⟨rfl, rfl⟩, hs.garb hm⟩) (fun u rs' ⟨hu, hr⟩ => by
    subst hu; subst hr
    rw [hd, put_some hl]; exact h)
section ord
variable {rsS : St} {B : Nat} {gl gl' : GL} {i : Nat} {orest : List Nat} {ol : List Oper}
inductive UpdG (n : Nat) (x y : List Value × TypeId) : GL → GL → Prop
  | head {tl : GL} : UpdG n x y ((n, x) :: tl) ((n, y) :: tl)
  | tail {z : Nat × List Value × TypeId} {tl tl' : GL} : UpdG n x y tl tl' → UpdG n x y (z :: tl) (z :: tl')
theorem UpdG.at {n : Nat} {x y : List Value × TypeId} {a b : GL} (h : UpdG n x y a b) : ∃ k, a[k]? = some (n, x) ∧ b = a.set k (n, y) := by
  induction h with
  | head => exact ⟨0, rfl, rfl⟩
  | tail _ ih => obtain ⟨k, h1, rfl⟩ := ih; exact ⟨k + 1, by simpa using h1, rfl⟩
theorem ordS_put {T : TypeId} {x y : Operand} {n off : Nat} {v : Value} {cs cs' : List Value} {t : TypeId} (ho : ol[i]? = some ⟨none, .store T x y, ty, pos, aft, gd⟩)
    (hw : Region.wanted ⟨none, .store T x y, ty, pos, aft, gd⟩ (yielded ol.toArray l.toArray) = true) (hx : opnd l x = some (.pointer (some ⟨n, off, none⟩))) (hy : opnd l y = some v) (hu : UpdG n (cs, t) (cs', t) gl gl') (hv : StoreV T cs off v cs')
    (h : ordS Try.prog w0 S Q rsS B ol.toArray orest l ds gl' rs) : ordS Try.prog w0 S Q rsS B ol.toArray (i :: orest) l ds gl rs := fun hnd hi => by
  obtain ⟨k, hk, rfl⟩ := hu.at
  refine ord_put (lookL ho) hw rfl rfl n cs t cs' (ghOf_get hnd hk) (fun w hb => ?_) ?_
  · obtain ⟨w', hr, hb', _, ho'⟩ := hv w n t hb
    refine ⟨w', .inr ?_, ho', hb'⟩
    simp only [execOp, opnd_eval hx, opnd_eval hy, Sem.run_bind, hr]
    rfl
  · rw [← ghOf_set hnd hk]
    exact h (by rw [keys_set hk]; exact hnd) hi
end ord
theorem run_alloc {T : TypeId} {cs : List Value} (h : look zerL T = some cs) (w : World) :
    (execOp (Act.eval ⟨l.toArray, ds⟩) ⟨dt, .alloc T, ty, pos, aft, gd⟩).run Try.prog w = .ok (.value (.pointer (some ⟨w.heap.size, 0, none⟩))) (w.alloc (.cells cs.toArray T)) := by
  obtain ⟨z, hz, hc⟩ := zerAll _ (look_mem h) w
  simp only [execOp, Sem.run_bind, Instr.alloc, hz, Result.andThen_ok, newVar, newRow, run_newObj_alloc, Sem.run_pure]
  rw [← hc]
end
end Go.Proofs.Ytmcaigmpcbkfpaa
