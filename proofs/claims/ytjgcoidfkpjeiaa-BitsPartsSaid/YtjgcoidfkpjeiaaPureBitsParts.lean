/- The plain statement of BitsParts over the printed functions stands in the text that is imported. -/
import Derived.Test.YtjgcoidfkpjeiaaBitsParts
