/- The plain statement of FcsOn over the printed functions stands in the text that is imported. -/
import Derived.Test.YtejpdpjklncfnaaFcsLaws
